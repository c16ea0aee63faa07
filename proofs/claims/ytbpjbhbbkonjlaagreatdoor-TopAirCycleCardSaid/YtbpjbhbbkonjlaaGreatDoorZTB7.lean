/- Steps of the proof: FCpt2, FCpt3, FApi, FFloor, FCeilP, FAwk, FRefS, FCmpF, FSumR, FOpsR, EChk, FSumsP, FSums, EChd, EOrd, EOrd2, EOrd3, EOf, EPt, EHull, EMeet, EMeetR, EBel, EEnds, EAdd, EDig, EWrB. No conditions. -/
import Derived.LoopN
import Derived.Test.YtbpjbhbbkonjlaaGreatDoorZTB1
import Derived.Test.YtbpjbhbbkonjlaaGreatDoorZTB2
import Derived.Test.YtbpjbhbbkonjlaaGreatDoorZTB3
import Derived.Test.YtbpjbhbbkonjlaaGreatDoorZTB4
import Derived.Test.YtbpjbhbbkonjlaaGreatDoorZTB5
import Derived.Test.YtbpjbhbbkonjlaaGreatDoorZTB6
namespace Go.Proofs.YtbpjbhbbkonjlaaGreatDoor
open Go.RowKit
set_option maxHeartbeats 16000000 in
set_option maxRecDepth 100000 in
theorem computed2_any (a b : Txt) (w : World) (hG : Glob w) (ha : a.length ≤ 400) (hb : b.length ≤ 400) :
    Calls Tryz.prog 62 #[.int .i64 2, txt a, txt b] w (ResPost (mulS a b) w) := by
  have HG := Lib.hid hG
  have HPA := Lib.hid (fun W (hW : Ext w W) => parsed_any a W (hG.ext hW) ha)
  have HPB := Lib.hid (fun W (hW : Ext w W) => parsed_any b W (hG.ext hW) hb)
  have HRES := Lib.hid (@mul_res a b)
  clear hG
  go_enter Tryz.func62, Tryz.ntmps62
  go_wp2_with fail
  refine (HPA.out _ (Ext.refl _)).mono ?_
  rintro e w1 ⟨v1, rfl, ⟨s1, ta, tn, tc, ba, bn, bc, rfl⟩, hn1, hE⟩
  have HN1 := Lib.hid hn1
  clear hn1 HPA
  by_cases ea : fracE a = 0
  rotate_left
  · have HR := Lib.hid (HRES.out.1 ea)
    have hne : (((fracE a : Nat) : Int) != 0) = true := by rw [bne_iff_ne]; omega
    clear HN1 HPB HRES
    generalize fracE a = n at *
    go_wp2_with fail
    go_ret2
    exact ⟨by rw [HR.out]; rfl, extA⟩
  have HNA := Lib.hid (HN1.out ea)
  rw [ea]
  have HEA := Lib.hid ea
  clear ea HN1
  have EV : Ext w1 (w1.alloc (.cells #[.bool s1, .slice ta tn tc, .slice ba bn bc] 143)) := extA
  have X : Num3 w1.heap.size (w1.alloc (.cells #[.bool s1, .slice ta tn tc, .slice ba bn bc] 143)) (.bool s1) (.slice ta tn tc) (.slice ba bn bc) := ⟨by go_simp, by go_simp, by go_simp, by go_simp, by go_simp, by go_simp⟩
  have E := hE.trans EV
  replace HNA := Lib.hid (HNA.out.ext EV)
  clear EV hE
  go_wp2_with fail
  obtain ⟨xb, hxb⟩ : ∃ xb, xb = w1.heap.size := ⟨_, rfl⟩
  rw [← hxb] at X ⊢
  clear hxb
  generalize (w1.alloc (.cells #[.bool s1, .slice ta tn tc, .slice ba bn bc] 143)) = W1 at X E HNA ⊢
  refine (HPB.out _ E).mono ?_
  rintro e w3 ⟨v2, rfl, ⟨s2, ua, un, uc, va, vn, vc, rfl⟩, hn2, hE⟩
  replace X := X.ext hE
  replace E := E.trans hE
  replace HNA := Lib.hid (HNA.out.ext hE)
  have HN2 := Lib.hid hn2
  clear hn2 HPB hE
  by_cases eb : fracE b = 0
  rotate_left
  · have HR := Lib.hid (HRES.out.2.1 HEA.out eb)
    have hne : (((fracE b : Nat) : Int) != 0) = true := by rw [bne_iff_ne]; omega
    clear HN2 HRES HEA
    generalize fracE b = n at *
    go_wp2_with fail
    go_ret2
    exact ⟨by rw [HR.out]; rfl, extA⟩
  have HNB := Lib.hid (HN2.out eb)
  rw [eb]
  have HEB := Lib.hid eb
  clear eb HN2
  have EV : Ext w3 (w3.alloc (.cells #[.bool s2, .slice ua un uc, .slice va vn vc] 143)) := extA
  have Y : Num3 w3.heap.size (w3.alloc (.cells #[.bool s2, .slice ua un uc, .slice va vn vc] 143)) (.bool s2) (.slice ua un uc) (.slice va vn vc) := ⟨by go_simp, by go_simp, by go_simp, by go_simp, by go_simp, by go_simp⟩
  replace X := X.ext EV
  replace E := E.trans EV
  replace HNA := Lib.hid (HNA.out.ext EV)
  replace HNB := Lib.hid (HNB.out.ext EV)
  clear EV
  go_wp2_with fail
  obtain ⟨yb, hyb⟩ : ∃ yb, yb = w3.heap.size := ⟨_, rfl⟩
  rw [← hyb] at Y ⊢
  clear hyb
  generalize (w3.alloc (.cells #[.bool s2, .slice ua un uc, .slice va vn vc] 143)) = W3 at X Y E HNA HNB ⊢
  have hix := op_index2
  have hfi := op_field
  have hxa := (numOf_len HEA.out).1
  have hyb := (numOf_len HEB.out).1
  go_cut [11, 9] (fun n ev wx => ∃ nb z0 z1 zn zc z2 zm zd, n = .pointer (some ⟨nb, 0, none⟩) ∧ ev = .int .i64 0 ∧ Hid (Num3 nb wx (.bool z0) (.slice z1 zn zc) (.slice z2 zm zd)) ∧ Hid (NumV wx (.agg #[.bool z0, .slice z1 zn zc, .slice z2 zm zd]) (mulN (numOf a) (numOf b))) ∧ Ext w wx)
  case first =>
    have hdr : Ext W3 W3.drew := extA
    replace X := X.ext hdr
    replace Y := Y.ext hdr
    replace E := E.trans hdr
    replace HNA := Lib.hid (HNA.out.ext hdr)
    replace HNB := Lib.hid (HNB.out.ext hdr)
    have hS : W3.drew.cell? ⟨xb, 0, none⟩ = some (.bool s1) ∧ W3.drew.cell? ⟨xb, 1, none⟩ = some (.slice ta tn tc) ∧ W3.drew.cell? ⟨xb, 2, none⟩ = some (.slice ba bn bc) ∧ W3.drew.cell? ⟨yb, 0, none⟩ = some (.bool s2) ∧ W3.drew.cell? ⟨yb, 1, none⟩ = some (.slice ua un uc) ∧ W3.drew.cell? ⟨yb, 2, none⟩ = some (.slice va vn vc) := ⟨X.c0, X.c1, X.c2, Y.c0, Y.c1, Y.c2⟩
    refine wp_region_heldE 11 (fun w' => w'.cell? ⟨xb, 0, none⟩ = some (.bool s1) ∧ w'.cell? ⟨xb, 1, none⟩ = some (.slice ta tn tc) ∧ w'.cell? ⟨xb, 2, none⟩ = some (.slice ba bn bc) ∧ w'.cell? ⟨yb, 0, none⟩ = some (.bool s2) ∧ w'.cell? ⟨yb, 1, none⟩ = some (.slice ua un uc) ∧ w'.cell? ⟨yb, 2, none⟩ = some (.slice va vn vc)) (by kernel_rfl) ?_
    clear hdr X Y
    generalize W3.drew = W4 at E HNA HNB hS ⊢
    ((refine eTk 1 ?_); (refine eTk 4 ?_); (refine eTk 5 ?_))
    refine wpAnyE_two (i := 0) (j := 10) (o := ?_) (p := ?_) ?_ ?_ (by kernel_rfl) (fun K hK => ?_) (fun K hK => ?_)
    rotate_left 2
    · simp only [List.getElem?_toArray, List.getElem?_cons_zero]; exact rfl
    · simp only [List.getElem?_toArray, List.getElem?_cons_succ, List.getElem?_cons_zero]; exact rfl
    · go_simp
      go_at_call 83
      refine (operations_any _).mono ?_
      rintro e w5 ⟨rfl, hE⟩
      go_wp2_with fail
      have hS5 : w5.cell? ⟨xb, 0, none⟩ = some (.bool s1) ∧ w5.cell? ⟨xb, 1, none⟩ = some (.slice ta tn tc) ∧ w5.cell? ⟨xb, 2, none⟩ = some (.slice ba bn bc) ∧ w5.cell? ⟨yb, 0, none⟩ = some (.bool s2) ∧ w5.cell? ⟨yb, 1, none⟩ = some (.slice ua un uc) ∧ w5.cell? ⟨yb, 2, none⟩ = some (.slice va vn vc) := ⟨hE.cell hS.1, hE.cell hS.2.1, hE.cell hS.2.2.1, hE.cell hS.2.2.2.1, hE.cell hS.2.2.2.2.1, hE.cell hS.2.2.2.2.2⟩
      refine hK.out _ _ hS5 (fun hHeld => ?_)
      clear hK K hHeld
      (try simp only [Act.put, List.setIfInBounds_toArray, List.set_cons_zero, List.set_cons_succ])
      replace E := E.trans hE
      replace HNA := Lib.hid (HNA.out.ext hE)
      replace HNB := Lib.hid (HNB.out.ext hE)
      clear hE hS
      ((refine eTk 2 ?_); (refine eTk 3 ?_))
      refine wpAnyE_two (i := 6) (j := 10) (o := ?_) (p := ?_) ?_ ?_ (by kernel_rfl) (fun K hK => ?_) (fun K hK => ?_)
      rotate_left 2
      · simp only [List.getElem?_toArray, List.getElem?_cons_succ, List.getElem?_cons_zero]; exact rfl
      · simp only [List.getElem?_toArray, List.getElem?_cons_succ, List.getElem?_cons_zero]; exact rfl
      · go_simp
        go_at_call 104
        refine (op2_any (numOf a) (numOf b) _ _ _ HNA.out HNB.out hxa hyb).mono ?_; rintro e w6 ⟨z, rfl, hz, hzn, hE⟩; obtain ⟨z1, zc, z2, zd, rfl, k1, k2⟩ := hz
        go_wp2_with fail
        have hS6 : w6.cell? ⟨xb, 0, none⟩ = some (.bool s1) ∧ w6.cell? ⟨xb, 1, none⟩ = some (.slice ta tn tc) ∧ w6.cell? ⟨xb, 2, none⟩ = some (.slice ba bn bc) ∧ w6.cell? ⟨yb, 0, none⟩ = some (.bool s2) ∧ w6.cell? ⟨yb, 1, none⟩ = some (.slice ua un uc) ∧ w6.cell? ⟨yb, 2, none⟩ = some (.slice va vn vc) := ⟨hE.cell hS5.1, hE.cell hS5.2.1, hE.cell hS5.2.2.1, hE.cell hS5.2.2.2.1, hE.cell hS5.2.2.2.2.1, hE.cell hS5.2.2.2.2.2⟩
        refine hK.out _ _ hS6 (fun hHeld => ?_)
        clear hK K hHeld hS5
        (try simp only [Act.put, List.setIfInBounds_toArray, List.set_cons_zero, List.set_cons_succ])
        ((refine ePu 7 ?_); (refine ePu 8 ?_); (refine ePu 9 ?_))
        have EA : Ext w6 (w6.alloc (.cells #[.bool false, .slice none 0 0, .slice none 0 0] 143)) := extA
        have N : Num3 w6.heap.size (w6.alloc (.cells #[.bool false, .slice none 0 0, .slice none 0 0] 143)) (.bool false) (.slice none 0 0) (.slice none 0 0) := ⟨by go_simp, by go_simp, by go_simp, by go_simp, by go_simp, by go_simp⟩
        (refine wpAnyE_one (i := 10) (o := ?_) ?_ (by kernel_rfl) (fun K hK => ?_); rotate_left; (focus ((simp only [List.getElem?_toArray, List.getElem?_cons_succ, List.getElem?_cons_zero]; exact rfl))); go_simp; refine hK.out _ _ ?_ (fun hHeld => ?_); rotate_left; clear hK K; (try simp only [Act.put, List.setIfInBounds_toArray, List.set_cons_zero, List.set_cons_succ]))
        rotate_left
        · exact ⟨EA.cell hS6.1, EA.cell hS6.2.1, EA.cell hS6.2.2.1, EA.cell hS6.2.2.2.1, EA.cell hS6.2.2.2.2.1, EA.cell hS6.2.2.2.2.2⟩
        obtain ⟨nb, hnb⟩ : ∃ nb, nb = w6.heap.size := ⟨_, rfl⟩
        rw [← hnb] at N ⊢
        have hnw : w6.heap.size ≤ nb := by omega
        have hww : w.heap.size ≤ nb := by have := (E.trans hE).size; omega
        have E6 := (E.trans hE).trans EA
        have HEA := Lib.hid EA
        clear EA hS6 hHeld hnb E hE
        generalize (w6.alloc (.cells #[.bool false, .slice none 0 0, .slice none 0 0] 143)) = W7 at N HEA E6 ⊢
        have HN := Lib.hid N
        obtain ⟨x0, x1, x2, g0, g1, g2⟩ := N
        (refine wpAnyE_free (i := 11) (o := ?_) ?_ (by kernel_rfl) (by kernel_rfl) (fun K hK => ?_); rotate_left; (focus ((simp only [List.getElem?_toArray, List.getElem?_cons_succ, List.getElem?_cons_zero]; exact rfl))); go_simp; refine hK.out _ _ ?_; clear hK K; (try simp only [Act.put, List.setIfInBounds_toArray, List.set_cons_zero, List.set_cons_succ]))
        ((refine ePu 12 ?_))
        refine wpAnyE_done (by kernel_rfl) ?_ _
        go_wp2_with fail
        go_meet
        refine ⟨nb, _, _, _, _, _, _, _, rfl, rfl, ((HN.out.set0 _).set1 _).set2 _, ?_, extA⟩
        exact NumV.ext ⟨z1, zc, z2, zd, rfl, k1, k2⟩ (((HEA.out.set hnw _).set hnw _).set hnw _)
      · go_simp
        have EA : Ext w5 (w5.alloc (.cells #[.bool false, .slice none 0 0, .slice none 0 0] 143)) := extA
        have N : Num3 w5.heap.size (w5.alloc (.cells #[.bool false, .slice none 0 0, .slice none 0 0] 143)) (.bool false) (.slice none 0 0) (.slice none 0 0) := ⟨by go_simp, by go_simp, by go_simp, by go_simp, by go_simp, by go_simp⟩
        have hSA : (w5.alloc (.cells #[.bool false, .slice none 0 0, .slice none 0 0] 143)).cell? ⟨xb, 0, none⟩ = some (.bool s1) ∧ (w5.alloc (.cells #[.bool false, .slice none 0 0, .slice none 0 0] 143)).cell? ⟨xb, 1, none⟩ = some (.slice ta tn tc) ∧ (w5.alloc (.cells #[.bool false, .slice none 0 0, .slice none 0 0] 143)).cell? ⟨xb, 2, none⟩ = some (.slice ba bn bc) ∧ (w5.alloc (.cells #[.bool false, .slice none 0 0, .slice none 0 0] 143)).cell? ⟨yb, 0, none⟩ = some (.bool s2) ∧ (w5.alloc (.cells #[.bool false, .slice none 0 0, .slice none 0 0] 143)).cell? ⟨yb, 1, none⟩ = some (.slice ua un uc) ∧ (w5.alloc (.cells #[.bool false, .slice none 0 0, .slice none 0 0] 143)).cell? ⟨yb, 2, none⟩ = some (.slice va vn vc) := ⟨EA.cell hS5.1, EA.cell hS5.2.1, EA.cell hS5.2.2.1, EA.cell hS5.2.2.2.1, EA.cell hS5.2.2.2.2.1, EA.cell hS5.2.2.2.2.2⟩
        refine hK.out _ _ hSA (fun hHeld => ?_)
        clear hK K hHeld hS5
        (try simp only [Act.put, List.setIfInBounds_toArray, List.set_cons_zero, List.set_cons_succ])
        obtain ⟨nb, hnb⟩ : ∃ nb, nb = w5.heap.size := ⟨_, rfl⟩
        rw [← hnb] at N ⊢
        have hww : w.heap.size ≤ nb := by have := E.size; omega
        replace E := E.trans EA
        replace HNA := Lib.hid (HNA.out.ext EA)
        replace HNB := Lib.hid (HNB.out.ext EA)
        clear EA hnb
        generalize (w5.alloc (.cells #[.bool false, .slice none 0 0, .slice none 0 0] 143)) = w5 at N hSA E HNA HNB ⊢
        (refine wpAnyE_one (i := 6) (o := ?_) ?_ (by kernel_rfl) (fun K hK => ?_); rotate_left; (focus ((simp only [List.getElem?_toArray, List.getElem?_cons_succ, List.getElem?_cons_zero]; exact rfl))); go_simp; go_at_call 104; refine (op2_any (numOf a) (numOf b) _ _ _ HNA.out HNB.out hxa hyb).mono ?_; rintro e w6 ⟨z, rfl, hz, hzn, hE⟩; obtain ⟨z1, zc, z2, zd, rfl, k1, k2⟩ := hz; go_wp2_with fail; refine hK.out _ _ ?_ (fun hHeld => ?_); rotate_left; clear hK K; (try simp only [Act.put, List.setIfInBounds_toArray, List.set_cons_zero, List.set_cons_succ]))
        rotate_left
        · exact ⟨hE.cell hSA.1, hE.cell hSA.2.1, hE.cell hSA.2.2.1, hE.cell hSA.2.2.2.1, hE.cell hSA.2.2.2.2.1, hE.cell hSA.2.2.2.2.2⟩
        have N6 := N.ext hE
        have hnl : nb < w5.heap.size := cell_lt N.c0
        have E6 := E.trans hE
        clear hSA N E hE
        ((refine ePu 7 ?_); (refine ePu 8 ?_); (refine ePu 9 ?_))
        clear hHeld
        have HN := Lib.hid N6
        obtain ⟨x0, x1, x2, g0, g1, g2⟩ := N6
        (refine wpAnyE_free (i := 11) (o := ?_) ?_ (by kernel_rfl) (by kernel_rfl) (fun K hK => ?_); rotate_left; (focus ((simp only [List.getElem?_toArray, List.getElem?_cons_succ, List.getElem?_cons_zero]; exact rfl))); go_simp; refine hK.out _ _ ?_; clear hK K; (try simp only [Act.put, List.setIfInBounds_toArray, List.set_cons_zero, List.set_cons_succ]))
        ((refine ePu 12 ?_))
        refine wpAnyE_done (by kernel_rfl) ?_ _
        go_wp2_with fail
        go_meet
        refine ⟨nb, _, _, _, _, _, _, _, rfl, rfl, ((HN.out.set0 _).set1 _).set2 _, ?_, extA⟩
        exact NumV.set (NumV.set (NumV.set ⟨z1, zc, z2, zd, rfl, k1, k2⟩ hzn hnl) hzn hnl) hzn hnl
    · go_simp
      have EA : Ext W4 (W4.alloc (.cells #[.bool false, .slice none 0 0, .slice none 0 0] 143)) := extA
      have N : Num3 W4.heap.size (W4.alloc (.cells #[.bool false, .slice none 0 0, .slice none 0 0] 143)) (.bool false) (.slice none 0 0) (.slice none 0 0) := ⟨by go_simp, by go_simp, by go_simp, by go_simp, by go_simp, by go_simp⟩
      have hSA : (W4.alloc (.cells #[.bool false, .slice none 0 0, .slice none 0 0] 143)).cell? ⟨xb, 0, none⟩ = some (.bool s1) ∧ (W4.alloc (.cells #[.bool false, .slice none 0 0, .slice none 0 0] 143)).cell? ⟨xb, 1, none⟩ = some (.slice ta tn tc) ∧ (W4.alloc (.cells #[.bool false, .slice none 0 0, .slice none 0 0] 143)).cell? ⟨xb, 2, none⟩ = some (.slice ba bn bc) ∧ (W4.alloc (.cells #[.bool false, .slice none 0 0, .slice none 0 0] 143)).cell? ⟨yb, 0, none⟩ = some (.bool s2) ∧ (W4.alloc (.cells #[.bool false, .slice none 0 0, .slice none 0 0] 143)).cell? ⟨yb, 1, none⟩ = some (.slice ua un uc) ∧ (W4.alloc (.cells #[.bool false, .slice none 0 0, .slice none 0 0] 143)).cell? ⟨yb, 2, none⟩ = some (.slice va vn vc) := ⟨EA.cell hS.1, EA.cell hS.2.1, EA.cell hS.2.2.1, EA.cell hS.2.2.2.1, EA.cell hS.2.2.2.2.1, EA.cell hS.2.2.2.2.2⟩
      refine hK.out _ _ hSA (fun hHeld => ?_)
      clear hK K hHeld hS
      (try simp only [Act.put, List.setIfInBounds_toArray, List.set_cons_zero, List.set_cons_succ])
      obtain ⟨nb, hnb⟩ : ∃ nb, nb = W4.heap.size := ⟨_, rfl⟩
      rw [← hnb] at N ⊢
      have hww : w.heap.size ≤ nb := by have := E.size; omega
      replace E := E.trans EA
      replace HNA := Lib.hid (HNA.out.ext EA)
      replace HNB := Lib.hid (HNB.out.ext EA)
      clear EA hnb
      generalize (W4.alloc (.cells #[.bool false, .slice none 0 0, .slice none 0 0] 143)) = W5 at N hSA E HNA HNB ⊢
      (refine wpAnyE_one (i := 0) (o := ?_) ?_ (by kernel_rfl) (fun K hK => ?_); rotate_left; (focus ((simp only [List.getElem?_toArray, List.getElem?_cons_zero]; exact rfl))); go_simp; go_at_call 83; refine (operations_any _).mono ?_; rintro e w5 ⟨rfl, hE⟩; go_wp2_with fail; refine hK.out _ _ ?_ (fun hHeld => ?_); rotate_left; clear hK K; (try simp only [Act.put, List.setIfInBounds_toArray, List.set_cons_zero, List.set_cons_succ]))
      rotate_left
      · exact ⟨hE.cell hSA.1, hE.cell hSA.2.1, hE.cell hSA.2.2.1, hE.cell hSA.2.2.2.1, hE.cell hSA.2.2.2.2.1, hE.cell hSA.2.2.2.2.2⟩
      replace hSA : w5.cell? ⟨xb, 0, none⟩ = some (.bool s1) ∧ w5.cell? ⟨xb, 1, none⟩ = some (.slice ta tn tc) ∧ w5.cell? ⟨xb, 2, none⟩ = some (.slice ba bn bc) ∧ w5.cell? ⟨yb, 0, none⟩ = some (.bool s2) ∧ w5.cell? ⟨yb, 1, none⟩ = some (.slice ua un uc) ∧ w5.cell? ⟨yb, 2, none⟩ = some (.slice va vn vc) := ⟨hE.cell hSA.1, hE.cell hSA.2.1, hE.cell hSA.2.2.1, hE.cell hSA.2.2.2.1, hE.cell hSA.2.2.2.2.1, hE.cell hSA.2.2.2.2.2⟩
      replace N := N.ext hE
      replace E := E.trans hE
      replace HNA := Lib.hid (HNA.out.ext hE)
      replace HNB := Lib.hid (HNB.out.ext hE)
      clear hE hHeld
      ((refine eTk 2 ?_); (refine eTk 3 ?_))
      (refine wpAnyE_one (i := 6) (o := ?_) ?_ (by kernel_rfl) (fun K hK => ?_); rotate_left; (focus ((simp only [List.getElem?_toArray, List.getElem?_cons_succ, List.getElem?_cons_zero]; exact rfl))); go_simp; go_at_call 104; refine (op2_any (numOf a) (numOf b) _ _ _ HNA.out HNB.out hxa hyb).mono ?_; rintro e w6 ⟨z, rfl, hz, hzn, hE⟩; obtain ⟨z1, zc, z2, zd, rfl, k1, k2⟩ := hz; go_wp2_with fail; refine hK.out _ _ ?_ (fun hHeld => ?_); rotate_left; clear hK K; (try simp only [Act.put, List.setIfInBounds_toArray, List.set_cons_zero, List.set_cons_succ]))
      rotate_left
      · exact ⟨hE.cell hSA.1, hE.cell hSA.2.1, hE.cell hSA.2.2.1, hE.cell hSA.2.2.2.1, hE.cell hSA.2.2.2.2.1, hE.cell hSA.2.2.2.2.2⟩
      have N6 := N.ext hE
      have hnl : nb < w5.heap.size := cell_lt N.c0
      have E6 := E.trans hE
      clear hSA N E hE
      ((refine ePu 7 ?_); (refine ePu 8 ?_); (refine ePu 9 ?_))
      clear hHeld
      have HN := Lib.hid N6
      obtain ⟨x0, x1, x2, g0, g1, g2⟩ := N6
      (refine wpAnyE_free (i := 11) (o := ?_) ?_ (by kernel_rfl) (by kernel_rfl) (fun K hK => ?_); rotate_left; (focus ((simp only [List.getElem?_toArray, List.getElem?_cons_succ, List.getElem?_cons_zero]; exact rfl))); go_simp; refine hK.out _ _ ?_; clear hK K; (try simp only [Act.put, List.setIfInBounds_toArray, List.set_cons_zero, List.set_cons_succ]))
      ((refine ePu 12 ?_))
      refine wpAnyE_done (by kernel_rfl) ?_ _
      go_wp2_with fail
      go_meet
      refine ⟨nb, _, _, _, _, _, _, _, rfl, rfl, ((HN.out.set0 _).set1 _).set2 _, ?_, extA⟩
      exact NumV.set (NumV.set (NumV.set ⟨z1, zc, z2, zd, rfl, k1, k2⟩ hzn hnl) hzn hnl) hzn hnl
  case rest =>
    obtain ⟨nb, z0, z1, zn, zc, z2, zm, zd, rfl, rfl, N, HZ, E⟩ := hcut
    have ka := (numOf_len HEA.out).2
    have kb := (numOf_len HEB.out).2
    have hval : valQ (mulN (numOf a) (numOf b)) = fracQ a * fracQ b := (mulN_val _ _).trans (by rw [numOf_val, numOf_val])
    have hden : (mulN (numOf a) (numOf b)).2.2 ≠ 0 := Nat.mul_ne_zero ka kb
    have hlen := mulN_len hxa hyb
    have HRR := Lib.hid (HRES.out.2.2 HEA.out HEB.out)
    generalize mulN (numOf a) (numOf b) = SN at *
    have HW := Lib.hid (written_any SN.1 SN.2.1 SN.2.2 _ _ HZ.out hden (HG.out.ext E) hlen.1 hlen.2)
    have HV := Lib.hid (show numQ SN.1 SN.2.1 SN.2.2 = fracQ a * fracQ b from hval)
    obtain ⟨x0, x1, x2, _, _, _⟩ := N.out
    clear X Y HNA HNB HRES HZ N hval hden hlen ka kb hxa hyb
    go_wp2_with (go_at_call 84; refine HW.out.mono ?_; rintro e w9 ⟨rfl, hE⟩)
    go_ret2
    exact ⟨by rw [HRR.out, HV.out]; rfl, E.trans hE⟩
end Go.Proofs.YtbpjbhbbkonjlaaGreatDoor
namespace Go.Proofs.YtbpjbhbbkonjlaaGreatDoor
open Go.RowKit
end Go.Proofs.YtbpjbhbbkonjlaaGreatDoor
namespace Go.Proofs.YtbpjbhbbkonjlaaGreatDoor
open Go.RowKit
open Go.Lib (decDigits itoa)
def IntP (z : Int) (n : Nat) (w : World) (e : Ending) (w' : World) : Prop := e = .returned (.tuple #[.int .i64 z, .int .i64 (n : Nat)]) ∧ Ext w w'
set_option maxHeartbeats 2000000 in
theorem add_any (a b : Txt) (w : World) (hG : Glob w) (ha : a.length ≤ 400) (hb : b.length ≤ 400) : Calls Tryz.prog 32 #[txt a, txt b] w (ResP (addS a b) w) := by
  have H := Lib.hid (computed0_any a b w hG ha hb)
  clear hG
  go_enter Tryz.func32, Tryz.ntmps32
  go_wp2_with (go_at_call 62; refine H.out.mono ?_; rintro e w1 ⟨rfl, hE⟩)
  go_ret2
  exact ⟨rfl, hE⟩
set_option maxHeartbeats 2000000 in
theorem mul_any (a b : Txt) (w : World) (hG : Glob w) (ha : a.length ≤ 400) (hb : b.length ≤ 400) : Calls Tryz.prog 113 #[txt a, txt b] w (ResP (mulS a b) w) := by
  have H := Lib.hid (computed2_any a b w hG ha hb)
  clear hG
  go_enter Tryz.func113, Tryz.ntmps113
  go_wp2_with (go_at_call 62; refine H.out.mono ?_; rintro e w1 ⟨rfl, hE⟩)
  go_ret2
  exact ⟨rfl, hE⟩
end Go.Proofs.YtbpjbhbbkonjlaaGreatDoor
namespace Go.Proofs.YtbpjbhbbkonjlaaGreatDoor
open Go.RowKit
open Go.Lib (decDigits itoa)
end Go.Proofs.YtbpjbhbbkonjlaaGreatDoor
namespace Go.Proofs.YtbpjbhbbkonjlaaGreatDoor
open Go.RowKit
open Go.Lib (decDigits itoa)
end Go.Proofs.YtbpjbhbbkonjlaaGreatDoor
namespace Go.Proofs.YtbpjbhbbkonjlaaGreatDoor
open Go.RowKit
open Go.Lib (decDigits itoa)
end Go.Proofs.YtbpjbhbbkonjlaaGreatDoor
namespace Go.Proofs.YtbpjbhbbkonjlaaGreatDoor
open Go.RowKit
open Go.Lib (decDigits itoa)
theorem Good.any {a : Txt} (h : fracE a = 0) : Good 60 a (fracQ a) := ⟨h, rfl, frac_fit h⟩
end Go.Proofs.YtbpjbhbbkonjlaaGreatDoor
namespace Go.Proofs.YtbpjbhbbkonjlaaGreatDoor
open Go.RowKit
open Go.Lib (decDigits itoa)
theorem cmp_num2 {a b : Txt} (ea : fracE a = 0) (eb : fracE b = 0) : cmpS a b = (signN (sumN (numOf a) (negN (numOf b))), 0) := by
  obtain ⟨h1, h2⟩ := sumN_val (x := numOf a) (y := negN (numOf b)) (numOf_len ea).2 (numOf_len eb).2
  have h3 : valQ (sumN (numOf a) (negN (numOf b))) = fracQ a - fracQ b := by rw [h1, negN_val, numOf_val, numOf_val, Rat.sub_eq_add_neg]
  unfold cmpS ifOk
  rw [if_pos (bothE_zero ea eb), ← h3]
  unfold valQ signN
  rw [num_sign h2]
set_option maxHeartbeats 16000000 in
set_option maxRecDepth 100000 in
theorem compareF_any (a b : Txt) (w : World) (hG : Glob w) (ha : a.length ≤ 400) (hb : b.length ≤ 400) :
    Calls Tryz.prog 79 #[txt a, txt b] w (IntP (cmpS a b).1 (cmpS a b).2 w) := by
  have HPA := Lib.hid (fun W (hW : Ext w W) => parsed_any a W (hG.ext hW) ha)
  have HPB := Lib.hid (fun W (hW : Ext w W) => parsed_any b W (hG.ext hW) hb)
  clear hG
  unfold IntP
  go_enter Tryz.func79, Tryz.ntmps79
  go_wp2_with fail
  refine (HPA.out _ (Ext.refl _)).mono ?_
  rintro e w1 ⟨v1, rfl, ⟨s1, ta, tn, tc, ba, bn, bc, rfl⟩, hn1, hE⟩
  have HN1 := Lib.hid hn1
  clear hn1 HPA
  by_cases ea : fracE a = 0
  rotate_left
  · have HR : Hid (cmpS a b = (0, fracE a)) := by show _ = _; unfold cmpS ifOk; rw [bothE_left ea, if_neg ea]
    have hne : (((fracE a : Nat) : Int) != 0) = true := by rw [bne_iff_ne]; omega
    clear HN1 HPB
    generalize fracE a = n at *
    go_wp2_with fail
    go_ret2
    exact ⟨by rw [HR.out]; rfl, extA⟩
  have HNA := Lib.hid (HN1.out ea)
  rw [ea]
  have HEA := Lib.hid ea
  clear ea HN1
  have hne0 : (((0 : Nat) : Int) != 0) = false := rfl
  have EV : Ext w1 (w1.alloc (.cells #[.bool s1, .slice ta tn tc, .slice ba bn bc] 143)) := extA
  have X : Num3 w1.heap.size (w1.alloc (.cells #[.bool s1, .slice ta tn tc, .slice ba bn bc] 143)) (.bool s1) (.slice ta tn tc) (.slice ba bn bc) := ⟨by go_simp, by go_simp, by go_simp, by go_simp, by go_simp, by go_simp⟩
  have E := hE.trans EV
  replace HNA := Lib.hid (HNA.out.ext EV)
  clear EV hE
  go_wp2_with fail
  obtain ⟨xb, hxb⟩ : ∃ xb, xb = w1.heap.size := ⟨_, rfl⟩
  rw [← hxb] at X ⊢
  clear hxb
  generalize (w1.alloc (.cells #[.bool s1, .slice ta tn tc, .slice ba bn bc] 143)) = W1 at X E HNA ⊢
  refine (HPB.out _ E).mono ?_
  rintro e w3 ⟨v2, rfl, ⟨s2, ua, un, uc, va, vn, vc, rfl⟩, hn2, hE⟩
  replace X := X.ext hE
  replace E := E.trans hE
  replace HNA := Lib.hid (HNA.out.ext hE)
  have HN2 := Lib.hid hn2
  clear hn2 HPB hE
  by_cases eb : fracE b = 0
  rotate_left
  · have HR : Hid (cmpS a b = (0, fracE b)) := by show _ = _; unfold cmpS ifOk; rw [bothE_right HEA.out, if_neg eb]
    have hne : (((fracE b : Nat) : Int) != 0) = true := by rw [bne_iff_ne]; omega
    clear HN2 HEA
    generalize fracE b = n at *
    go_wp2_with fail
    go_ret2
    exact ⟨by rw [HR.out]; rfl, extA⟩
  have HNB := Lib.hid (HN2.out eb)
  have HR := Lib.hid (cmp_num2 HEA.out eb)
  have hxa := (numOf_len HEA.out).1
  have hyb := (numOf_len eb).1
  rw [eb]
  clear eb HN2 HEA
  have EV : Ext w3 (w3.alloc (.cells #[.bool s2, .slice ua un uc, .slice va vn vc] 143)) := extA
  have Y : Num3 w3.heap.size (w3.alloc (.cells #[.bool s2, .slice ua un uc, .slice va vn vc] 143)) (.bool s2) (.slice ua un uc) (.slice va vn vc) := ⟨by go_simp, by go_simp, by go_simp, by go_simp, by go_simp, by go_simp⟩
  replace X := X.ext EV
  replace E := E.trans EV
  replace HNA := Lib.hid (HNA.out.ext EV)
  replace HNB := Lib.hid (HNB.out.ext EV)
  clear EV
  generalize numOf a = NA at *
  generalize numOf b = NB at *
  go_wp2_with fail
  obtain ⟨yb, hyb2⟩ : ∃ yb, yb = w3.heap.size := ⟨_, rfl⟩
  rw [← hyb2] at Y ⊢
  clear hyb2
  generalize (w3.alloc (.cells #[.bool s2, .slice ua un uc, .slice va vn vc] 143)) = W3 at X Y E HNA HNB ⊢
  have hdr : Ext W3 W3.drew := extA
  replace X := X.ext hdr
  replace Y := Y.ext hdr
  replace E := E.trans hdr
  replace HNA := Lib.hid (HNA.out.ext hdr)
  replace HNB := Lib.hid (HNB.out.ext hdr)
  have hS : W3.drew.cell? ⟨xb, 0, none⟩ = some (.bool s1) ∧ W3.drew.cell? ⟨xb, 1, none⟩ = some (.slice ta tn tc) ∧ W3.drew.cell? ⟨xb, 2, none⟩ = some (.slice ba bn bc) ∧ W3.drew.cell? ⟨yb, 0, none⟩ = some (.bool s2) ∧ W3.drew.cell? ⟨yb, 1, none⟩ = some (.slice ua un uc) ∧ W3.drew.cell? ⟨yb, 2, none⟩ = some (.slice va vn vc) := ⟨X.c0, X.c1, X.c2, Y.c0, Y.c1, Y.c2⟩
  refine wp_region_heldE 99 (fun w' => w'.cell? ⟨xb, 0, none⟩ = some (.bool s1) ∧ w'.cell? ⟨xb, 1, none⟩ = some (.slice ta tn tc) ∧ w'.cell? ⟨xb, 2, none⟩ = some (.slice ba bn bc) ∧ w'.cell? ⟨yb, 0, none⟩ = some (.bool s2) ∧ w'.cell? ⟨yb, 1, none⟩ = some (.slice ua un uc) ∧ w'.cell? ⟨yb, 2, none⟩ = some (.slice va vn vc)) (by kernel_rfl) ?_
  clear hdr X Y
  generalize W3.drew = W4 at E HNA HNB hS ⊢
  ((refine eTk 0 ?_); (refine eTk 1 ?_))
  (refine wpAnyE_one (i := 2) (o := ?_) ?_ (by kernel_rfl) (fun K hK => ?_); rotate_left; (focus ((simp only [List.getElem?_toArray, List.getElem?_cons_succ, List.getElem?_cons_zero]; exact rfl))); go_simp; go_at_call 94; refine (opposite_any NB _ _ HNB.out).mono ?_; rintro e w5 ⟨v5, rfl, h5, hE⟩; go_wp2_with fail; refine hK.out _ _ ?_ (fun hHeld => ?_); rotate_left; clear hK K; (try simp only [Act.put, List.setIfInBounds_toArray, List.set_cons_zero, List.set_cons_succ]))
  rotate_left
  · exact ⟨hE.cell hS.1, hE.cell hS.2.1, hE.cell hS.2.2.1, hE.cell hS.2.2.2.1, hE.cell hS.2.2.2.2.1, hE.cell hS.2.2.2.2.2⟩
  have hS5 : w5.cell? ⟨xb, 0, none⟩ = some (.bool s1) ∧ w5.cell? ⟨xb, 1, none⟩ = some (.slice ta tn tc) ∧ w5.cell? ⟨xb, 2, none⟩ = some (.slice ba bn bc) ∧ w5.cell? ⟨yb, 0, none⟩ = some (.bool s2) ∧ w5.cell? ⟨yb, 1, none⟩ = some (.slice ua un uc) ∧ w5.cell? ⟨yb, 2, none⟩ = some (.slice va vn vc) := ⟨hE.cell hS.1, hE.cell hS.2.1, hE.cell hS.2.2.1, hE.cell hS.2.2.2.1, hE.cell hS.2.2.2.2.1, hE.cell hS.2.2.2.2.2⟩
  replace E := E.trans hE
  replace HNA := Lib.hid (HNA.out.ext hE)
  have HV5 := Lib.hid h5
  clear hS hE h5 hHeld HNB
  (refine wpAnyE_one (i := 3) (o := ?_) ?_ (by kernel_rfl) (fun K hK => ?_); rotate_left; (focus ((simp only [List.getElem?_toArray, List.getElem?_cons_succ, List.getElem?_cons_zero]; exact rfl))); go_simp; go_at_call 93; refine (sum_any NA (negN NB) _ v5 w5 HNA.out HV5.out hxa hyb).mono ?_; rintro e w6 ⟨v6, rfl, h6, _, hE⟩; go_wp2_with fail; refine hK.out _ _ ?_ (fun hHeld => ?_); rotate_left; clear hK K; (try simp only [Act.put, List.setIfInBounds_toArray, List.set_cons_zero, List.set_cons_succ]))
  rotate_left
  · exact ⟨hE.cell hS5.1, hE.cell hS5.2.1, hE.cell hS5.2.2.1, hE.cell hS5.2.2.2.1, hE.cell hS5.2.2.2.2.1, hE.cell hS5.2.2.2.2.2⟩
  have hS6 : w6.cell? ⟨xb, 0, none⟩ = some (.bool s1) ∧ w6.cell? ⟨xb, 1, none⟩ = some (.slice ta tn tc) ∧ w6.cell? ⟨xb, 2, none⟩ = some (.slice ba bn bc) ∧ w6.cell? ⟨yb, 0, none⟩ = some (.bool s2) ∧ w6.cell? ⟨yb, 1, none⟩ = some (.slice ua un uc) ∧ w6.cell? ⟨yb, 2, none⟩ = some (.slice va vn vc) := ⟨hE.cell hS5.1, hE.cell hS5.2.1, hE.cell hS5.2.2.1, hE.cell hS5.2.2.2.1, hE.cell hS5.2.2.2.2.1, hE.cell hS5.2.2.2.2.2⟩
  replace E := E.trans hE
  have HV6 := Lib.hid h6
  clear hS5 hE h6 hHeld HNA HV5
  generalize sumN NA (negN NB) = SN at *
  (refine wpAnyE_one (i := 4) (o := ?_) ?_ (by kernel_rfl) (fun K hK => ?_); rotate_left; (focus ((simp only [List.getElem?_toArray, List.getElem?_cons_succ, List.getElem?_cons_zero]; exact rfl))); go_simp; go_at_call 92; refine (sign_any SN v6 w6 HV6.out).mono ?_; rintro e w7 ⟨rfl, hE⟩; go_wp2_with fail; refine hK.out _ _ ?_ (fun hHeld => ?_); rotate_left; clear hK K; (try simp only [Act.put, List.setIfInBounds_toArray, List.set_cons_zero, List.set_cons_succ]))
  rotate_left
  · exact ⟨hE.cell hS6.1, hE.cell hS6.2.1, hE.cell hS6.2.2.1, hE.cell hS6.2.2.2.1, hE.cell hS6.2.2.2.2.1, hE.cell hS6.2.2.2.2.2⟩
  have hS7 : w7.cell? ⟨xb, 0, none⟩ = some (.bool s1) ∧ w7.cell? ⟨xb, 1, none⟩ = some (.slice ta tn tc) ∧ w7.cell? ⟨xb, 2, none⟩ = some (.slice ba bn bc) ∧ w7.cell? ⟨yb, 0, none⟩ = some (.bool s2) ∧ w7.cell? ⟨yb, 1, none⟩ = some (.slice ua un uc) ∧ w7.cell? ⟨yb, 2, none⟩ = some (.slice va vn vc) := ⟨hE.cell hS6.1, hE.cell hS6.2.1, hE.cell hS6.2.2.1, hE.cell hS6.2.2.2.1, hE.cell hS6.2.2.2.2.1, hE.cell hS6.2.2.2.2.2⟩
  replace E := E.trans hE
  clear hS6 hE hHeld
  ((refine ePu 5 ?_); (refine ePu 6 ?_))
  clear hS7
  refine wpAnyE_done (by kernel_rfl) ?_ _
  go_wp2_with fail
  go_ret2
  exact ⟨by rw [HR.out]; rfl, E⟩
end Go.Proofs.YtbpjbhbbkonjlaaGreatDoor
namespace Go.Proofs.YtbpjbhbbkonjlaaGreatDoor
open Go.RowKit
open Go.Lib (decDigits itoa)
def LenR (k : Nat) (x : Num) : Prop := (toB 1000000 x.2.1).length ≤ k ∧ (toB 1000000 x.2.2).length ≤ k
theorem LenR.mono {k l : Nat} {x : Num} (h : LenR k x) (hk : k ≤ l) : LenR l x := ⟨Nat.le_trans h.1 hk, Nat.le_trans h.2 hk⟩
theorem mul_lenR {x y m n : Nat} (hx : (toB 1000000 x).length ≤ m) (hy : (toB 1000000 y).length ≤ n) : (toB 1000000 (x * y)).length ≤ m + n := by
  have lt : ∀ {z k : Nat}, (toB 1000000 z).length ≤ k → z < 1000000 ^ k := fun {z k} h => by
    have h1 := valB_lt (okB_toB (B := 1000000) (by omega) z)
    rw [valB_toB (by omega)] at h1
    exact Nat.lt_of_lt_of_le h1 (Nat.pow_le_pow_right (by omega) h)
  refine toB_len (by omega) _ ?_
  rw [Nat.pow_add]
  exact Nat.mul_lt_mul'' (lt hx) (lt hy)
set_option maxHeartbeats 2000000 in
theorem rTurn_any (x : Num) (v : Value) (w : World) (hv : NumR w v x) : Calls Tryz.prog 57 #[v] w (NumPost (negN x) w) := by
  obtain ⟨ta, tc, ba, bc, rfl, h1, h2⟩ := hv
  obtain ⟨s, t, d⟩ := x
  have H1 := Lib.hid h1
  have H2 := Lib.hid h2
  dsimp only at H1 H2 ⊢
  clear h1 h2
  have HN : Hid (∀ W, Ext w W → NumPost (negN (s, t, d)) w (.returned (.agg #[.bool (!s), .slice ta (toB 1000000 t).length tc, .slice ba (toB 1000000 d).length bc])) W) := fun W hW => ⟨_, rfl, ⟨ta, tc, ba, bc, rfl, H1.out.ext hW, H2.out.ext hW⟩, hW⟩
  generalize toB 1000000 t = lt at *
  generalize toB 1000000 d = ld at *
  go_enter Tryz.func57, Tryz.ntmps57
  go_wp2
  refine bodyPost_ret (v := .agg #[.bool (!s), .slice ta lt.length tc, .slice ba ld.length bc]) (by rw [results_cell1 rfl]; go_simp) rfl ?_
  exact HN.out _ extA
def NewBR (x : Nat) (w : World) (e : Ending) (w' : World) : Prop := ∃ a c, e = .returned (.slice a (toB 1000000 x).length c) ∧ CellsN .i64 w' a (toB 1000000 x) ∧ (∀ p, a = some p → w.heap.size ≤ p.block) ∧ Ext w w'
theorem OwnNPost.newBR {x : Nat} {w : World} {e : Ending} {w' : World} (h : OwnNPost .i64 3 (toB 1000000 x) w e w') : NewBR x w e w' := by
  obtain ⟨v, h1, h2, h3, h4⟩ := h
  obtain ⟨a, c, rfl, h5, _⟩ := h2.reads
  exact ⟨a, c, h1, h5, (fun p hp => h3 p.block (by rw [hp]; rfl)), h4⟩
set_option maxHeartbeats 8000000 in
set_option maxRecDepth 100000 in
theorem rSum_any (x y : Num) (v u : Value) (w : World) (hv : NumR w v x) (hu : NumR w u y) (hx : LenR 40 x) (hy : LenR 40 y) :
    Calls Tryz.prog 55 #[v, u] w (NumPost (sumN x y) w) := by
  obtain ⟨ta, tc, ba, bc, rfl, h1, h2⟩ := hv
  obtain ⟨ua, uc, va, vc, rfl, h3, h4⟩ := hu
  obtain ⟨s, t, d⟩ := x
  obtain ⟨r, p, q⟩ := y
  obtain ⟨l1, l2⟩ := hx
  obtain ⟨l3, l4⟩ := hy
  dsimp only at h1 h2 h3 h4 l1 l2 l3 l4 ⊢
  have m1 := mul_lenR l1 l4
  have m2 := mul_lenR l3 l2
  have HT1 := Lib.hid (fun W (hW : Ext w W) => (timesR_any t q _ _ ta va tc vc W rfl rfl (by omega) (by omega) (h1.ext hW) (h4.ext hW)).mono fun _ _ h => h.newBR)
  have HT2 := Lib.hid (fun W (hW : Ext w W) => (timesR_any p d _ _ ua ba uc bc W rfl rfl (by omega) (by omega) (h3.ext hW) (h2.ext hW)).mono fun _ _ h => h.newBR)
  have HT3 := Lib.hid (fun W (hW : Ext w W) => (timesR_any d q _ _ ba va bc vc W rfl rfl (by omega) (by omega) (h2.ext hW) (h4.ext hW)).mono fun _ _ h => h.newBR)
  have HSN := Lib.hid (show sumN (s, t, d) (r, p, q) = if s = r then (s, t * q + p * d, d * q) else if p * d ≤ t * q then (s, t * q - p * d, d * q) else (r, p * d - t * q, d * q) from rfl)
  generalize sumN (s, t, d) (r, p, q) = SN at *
  generalize t * q = X1 at *
  generalize p * d = X2 at *
  generalize d * q = X3 at *
  clear h1 h2 h3 h4
  have E : Ext w (((w.alloc (.cells #[.bool s, (.slice ta (toB 1000000 t).length tc), (.slice ba (toB 1000000 d).length bc)] 108)).alloc (.cells #[.bool r, (.slice ua (toB 1000000 p).length uc), (.slice va (toB 1000000 q).length vc)] 108)).alloc (.cells #[.bool false, .slice none 0 0, .slice none 0 0] 108)) := extA
  have A : Num3 w.heap.size (((w.alloc (.cells #[.bool s, (.slice ta (toB 1000000 t).length tc), (.slice ba (toB 1000000 d).length bc)] 108)).alloc (.cells #[.bool r, (.slice ua (toB 1000000 p).length uc), (.slice va (toB 1000000 q).length vc)] 108)).alloc (.cells #[.bool false, .slice none 0 0, .slice none 0 0] 108)) (.bool s) (.slice ta (toB 1000000 t).length tc) (.slice ba (toB 1000000 d).length bc) := ⟨by go_simp, by go_simp, by go_simp, by go_simp, by go_simp, by go_simp⟩
  have B : Num3 (w.heap.size + 1) (((w.alloc (.cells #[.bool s, (.slice ta (toB 1000000 t).length tc), (.slice ba (toB 1000000 d).length bc)] 108)).alloc (.cells #[.bool r, (.slice ua (toB 1000000 p).length uc), (.slice va (toB 1000000 q).length vc)] 108)).alloc (.cells #[.bool false, .slice none 0 0, .slice none 0 0] 108)) (.bool r) (.slice ua (toB 1000000 p).length uc) (.slice va (toB 1000000 q).length vc) := ⟨by go_simp, by go_simp, by go_simp, by go_simp, by go_simp, by go_simp⟩
  have R : Num3 (w.heap.size + 1 + 1) (((w.alloc (.cells #[.bool s, (.slice ta (toB 1000000 t).length tc), (.slice ba (toB 1000000 d).length bc)] 108)).alloc (.cells #[.bool r, (.slice ua (toB 1000000 p).length uc), (.slice va (toB 1000000 q).length vc)] 108)).alloc (.cells #[.bool false, .slice none 0 0, .slice none 0 0] 108)) (.bool false) (.slice none 0 0) (.slice none 0 0) := ⟨by go_simp, by go_simp, by go_simp, by go_simp, by go_simp, by go_simp⟩
  go_enter Tryz.func55, Tryz.ntmps55
  go_wp2_with fail
  generalize (((w.alloc (.cells #[.bool s, (.slice ta (toB 1000000 t).length tc), (.slice ba (toB 1000000 d).length bc)] 108)).alloc (.cells #[.bool r, (.slice ua (toB 1000000 p).length uc), (.slice va (toB 1000000 q).length vc)] 108)).alloc (.cells #[.bool false, .slice none 0 0, .slice none 0 0] 108)) = W at E A B R ⊢
  have hdr : Ext W W.drew := extA
  replace A := A.ext hdr
  replace B := B.ext hdr
  replace R := R.ext hdr
  replace E := E.trans hdr
  have hS : W.drew.cell? ⟨w.heap.size, 1, none⟩ = some (.slice ta (toB 1000000 t).length tc) ∧ W.drew.cell? ⟨w.heap.size + 1, 2, none⟩ = some (.slice va (toB 1000000 q).length vc) ∧ W.drew.cell? ⟨w.heap.size + 1, 1, none⟩ = some (.slice ua (toB 1000000 p).length uc) ∧ W.drew.cell? ⟨w.heap.size, 2, none⟩ = some (.slice ba (toB 1000000 d).length bc) := ⟨A.c1, B.c2, B.c1, A.c2⟩
  refine wp_region_heldE 99 (fun w' => w'.cell? ⟨w.heap.size, 1, none⟩ = some (.slice ta (toB 1000000 t).length tc) ∧ w'.cell? ⟨w.heap.size + 1, 2, none⟩ = some (.slice va (toB 1000000 q).length vc) ∧ w'.cell? ⟨w.heap.size + 1, 1, none⟩ = some (.slice ua (toB 1000000 p).length uc) ∧ w'.cell? ⟨w.heap.size, 2, none⟩ = some (.slice ba (toB 1000000 d).length bc)) (by kernel_rfl) ?_
  clear hdr
  generalize W.drew = W at E A B R hS ⊢
  have hz : w.heap.size + 1 + 1 < W.heap.size := cell_lt R.c0
  ((refine eTk 0 ?_); (refine eTk 1 ?_); (refine eTk 2 ?_); (refine eTk 3 ?_); (refine eTk 5 ?_); (refine eTk 6 ?_); (refine eTk 7 ?_); (refine eTk 8 ?_); (refine eTk 10 ?_); (refine eTk 11 ?_); (refine eTk 12 ?_); (refine eTk 13 ?_))
  (refine wpAnyE_one (i := 4) (o := ?_) ?_ (by kernel_rfl) (fun K hK => ?_); rotate_left; (focus ((simp only [List.getElem?_toArray, List.getElem?_cons_succ, List.getElem?_cons_zero]; exact rfl))); go_simp; go_at_call 76; refine (HT1.out _ E).mono ?_; rintro e w1 ⟨xa, xc, rfl, hx, hxn, hE⟩; go_wp2_with fail; refine hK.out _ _ ?_ (fun hHeld => ?_); rotate_left; clear hK K; (try simp only [Act.put, List.setIfInBounds_toArray, List.set_cons_zero, List.set_cons_succ]))
  rotate_left
  · exact ⟨hE.cell hS.1, hE.cell hS.2.1, hE.cell hS.2.2.1, hE.cell hS.2.2.2⟩
  have hS1 : w1.cell? ⟨w.heap.size, 1, none⟩ = some (.slice ta (toB 1000000 t).length tc) ∧ w1.cell? ⟨w.heap.size + 1, 2, none⟩ = some (.slice va (toB 1000000 q).length vc) ∧ w1.cell? ⟨w.heap.size + 1, 1, none⟩ = some (.slice ua (toB 1000000 p).length uc) ∧ w1.cell? ⟨w.heap.size, 2, none⟩ = some (.slice ba (toB 1000000 d).length bc) := ⟨hE.cell hS.1, hE.cell hS.2.1, hE.cell hS.2.2.1, hE.cell hS.2.2.2⟩
  have hz1 := hE.size
  have HXN : Hid (0 < (toB 1000000 X1).length → ∀ z, xa = some z → z.block ≠ w.heap.size + 1 + 1) := fun hl z hz => by have := hxn z hz; omega
  replace A := A.ext hE
  replace B := B.ext hE
  replace R := R.ext hE
  replace E := E.trans hE
  have HX := Lib.hid hx
  clear hS hE hx hxn hHeld
  (refine wpAnyE_one (i := 9) (o := ?_) ?_ (by kernel_rfl) (fun K hK => ?_); rotate_left; (focus ((simp only [List.getElem?_toArray, List.getElem?_cons_succ, List.getElem?_cons_zero]; exact rfl))); go_simp; go_at_call 76; refine (HT2.out _ E).mono ?_; rintro e w2 ⟨ya, yc, rfl, hy, hyn, hE⟩; go_wp2_with fail; refine hK.out _ _ ?_ (fun hHeld => ?_); rotate_left; clear hK K; (try simp only [Act.put, List.setIfInBounds_toArray, List.set_cons_zero, List.set_cons_succ]))
  rotate_left
  · exact ⟨hE.cell hS1.1, hE.cell hS1.2.1, hE.cell hS1.2.2.1, hE.cell hS1.2.2.2⟩
  have hS2 : w2.cell? ⟨w.heap.size, 1, none⟩ = some (.slice ta (toB 1000000 t).length tc) ∧ w2.cell? ⟨w.heap.size + 1, 2, none⟩ = some (.slice va (toB 1000000 q).length vc) ∧ w2.cell? ⟨w.heap.size + 1, 1, none⟩ = some (.slice ua (toB 1000000 p).length uc) ∧ w2.cell? ⟨w.heap.size, 2, none⟩ = some (.slice ba (toB 1000000 d).length bc) := ⟨hE.cell hS1.1, hE.cell hS1.2.1, hE.cell hS1.2.2.1, hE.cell hS1.2.2.2⟩
  have hz2 := hE.size
  have HYN : Hid (0 < (toB 1000000 X2).length → ∀ z, ya = some z → z.block ≠ w.heap.size + 1 + 1) := fun hl z hz => by have := hyn z hz; omega
  replace A := A.ext hE
  replace B := B.ext hE
  replace R := R.ext hE
  replace E := E.trans hE
  replace HX := Lib.hid (HX.out.ext hE)
  have HY := Lib.hid hy
  clear hS1 hE hy hyn hHeld
  (refine wpAnyE_one (i := 14) (o := ?_) ?_ (by kernel_rfl) (fun K hK => ?_); rotate_left; (focus ((simp only [List.getElem?_toArray, List.getElem?_cons_succ, List.getElem?_cons_zero]; exact rfl))); go_simp; go_at_call 76; refine (HT3.out _ E).mono ?_; rintro e w3 ⟨ma, mc, rfl, hm, hmn, hE⟩; go_wp2_with fail; refine hK.out _ _ ?_ (fun hHeld => ?_); rotate_left; clear hK K; (try simp only [Act.put, List.setIfInBounds_toArray, List.set_cons_zero, List.set_cons_succ]))
  rotate_left
  · exact ⟨hE.cell hS2.1, hE.cell hS2.2.1, hE.cell hS2.2.2.1, hE.cell hS2.2.2.2⟩
  have hS3 : w3.cell? ⟨w.heap.size, 1, none⟩ = some (.slice ta (toB 1000000 t).length tc) ∧ w3.cell? ⟨w.heap.size + 1, 2, none⟩ = some (.slice va (toB 1000000 q).length vc) ∧ w3.cell? ⟨w.heap.size + 1, 1, none⟩ = some (.slice ua (toB 1000000 p).length uc) ∧ w3.cell? ⟨w.heap.size, 2, none⟩ = some (.slice ba (toB 1000000 d).length bc) := ⟨hE.cell hS2.1, hE.cell hS2.2.1, hE.cell hS2.2.2.1, hE.cell hS2.2.2.2⟩
  have hz3 := hE.size
  have HMN : Hid (0 < (toB 1000000 X3).length → ∀ z, ma = some z → z.block ≠ w.heap.size + 1 + 1) := fun hl z hz => by have := hmn z hz; omega
  replace A := A.ext hE
  replace B := B.ext hE
  replace R := R.ext hE
  replace E := E.trans hE
  replace HX := Lib.hid (HX.out.ext hE)
  replace HY := Lib.hid (HY.out.ext hE)
  have HM := Lib.hid hm
  clear hS2 hE hm hmn hHeld
  ((refine ePu 15 ?_); (refine ePu 16 ?_); (refine ePu 17 ?_))
  refine wpAnyE_done (by kernel_rfl) ?_ _
  clear hS3
  obtain ⟨a0, _, _, _, _, _⟩ := A
  obtain ⟨b0, _, _, _, _, _⟩ := B
  by_cases hsr : s = r
  · have HE : Hid (SN = (s, X1 + X2, X3)) := HSN.out.trans (by rw [if_pos hsr])
    have hsb : (s == r) = true := by rw [hsr]; exact beq_self_eq_true r
    clear HSN hsr
    go_wp2_with fail
    have hdr : Ext w3 w3.drew := extA
    have hS : w3.drew.cell? ⟨w.heap.size, 0, none⟩ = some (.bool s) := hdr.cell a0
    replace R := R.ext hdr
    replace E := E.trans hdr
    replace HX := Lib.hid (HX.out.ext hdr)
    replace HY := Lib.hid (HY.out.ext hdr)
    replace HM := Lib.hid (HM.out.ext hdr)
    have hzd : w3.drew.heap.size = w3.heap.size := rfl
    refine wp_region_heldE 7 (fun w' => w'.cell? ⟨w.heap.size, 0, none⟩ = some (.bool s)) (by kernel_rfl) ?_
    clear a0 b0 hdr
    generalize w3.drew = wd at R E HX HY HM hS hzd ⊢
    ((refine eTk 0 ?_); (refine eTk 1 ?_); (refine eTk 2 ?_); (refine eTk 3 ?_); (refine eTk 5 ?_))
    (refine wpAnyE_one (i := 4) (o := ?_) ?_ (by kernel_rfl) (fun K hK => ?_); rotate_left; (focus ((simp only [List.getElem?_toArray, List.getElem?_cons_succ, List.getElem?_cons_zero]; exact rfl))); go_simp; go_at_call 77; refine ((plusR_any X1 X2 _ _ xa ya xc yc _ rfl rfl (by omega) (by omega) HX.out HY.out).mono fun _ _ h => h.newBR).mono ?_; rintro e w4 ⟨pa, pc, rfl, hp, hpn, hE4⟩; go_wp2_with fail; refine hK.out _ _ ?_ (fun hHeld => ?_); rotate_left; clear hK K; (try simp only [Act.put, List.setIfInBounds_toArray, List.set_cons_zero, List.set_cons_succ]))
    rotate_left
    · exact hE4.cell hS
    have HPN : Hid (0 < (toB 1000000 (X1 + X2)).length → ∀ z, pa = some z → z.block ≠ w.heap.size + 1 + 1) := fun hl z hz => by have := hpn z hz; omega
    have HP := Lib.hid hp
    have R4 := R.ext hE4
    have E4 := E.trans hE4
    have HM4 := Lib.hid (HM.out.ext hE4)
    obtain ⟨c0, c1, c2, f0, f1, f2⟩ := R4
    have hSf := hE4.cell hS
    clear hE4 hp hpn R E HX HY HM hS hHeld
    (refine ePu 6 ?_)
    clear hSf
    (refine wpAnyE_free (i := 7) (o := ?_) ?_ (by kernel_rfl) (by kernel_rfl) (fun K hK => ?_); rotate_left; (focus ((simp only [List.getElem?_toArray, List.getElem?_cons_succ, List.getElem?_cons_zero]; exact rfl))); go_simp; refine hK.out _ _ ?_; clear hK K; (try simp only [Act.put, List.setIfInBounds_toArray, List.set_cons_zero, List.set_cons_succ]))
    refine wpAnyE_done (by kernel_rfl) ?_ _
    go_wp2_with fail
    refine bodyPost_ret (v := .agg #[.bool s, .slice pa (toB 1000000 (X1 + X2)).length pc, .slice ma (toB 1000000 X3).length mc]) (by rw [results_cell1 rfl]; go_simp) rfl ?_
    refine ⟨_, rfl, ?_, extA⟩
    rw [HE.out]
    exact ⟨pa, pc, ma, mc, rfl, HP.out.three HPN.out, HM4.out.three HMN.out⟩
  · have hsb : (s == r) = false := by rw [beq_eq_false_iff_ne]; exact hsr
    by_cases hle : X2 ≤ X1
    · have HE : Hid (SN = (s, X1 - X2, X3)) := HSN.out.trans (by rw [if_neg hsr, if_pos hle])
      obtain ⟨z, hz, hz0⟩ : ∃ z, ordN X1 X2 = z ∧ 0 ≤ z := ⟨_, rfl, ordN_ge.2 hle⟩
      have HLE := Lib.hid hle
      clear HSN hsr hle
      go_wp2_with fail
      refine (orderR_any X1 X2 _ _ xa ya xc yc w3 rfl rfl (by omega) (by omega) HX.out HY.out).mono ?_
      rintro e w5 ⟨rfl, hE⟩
      rw [hz]
      have hz5 := hE.size
      replace R := R.ext hE
      replace E := E.trans hE
      replace HX := Lib.hid (HX.out.ext hE)
      replace HY := Lib.hid (HY.out.ext hE)
      replace HM := Lib.hid (HM.out.ext hE)
      replace a0 := hE.cell a0
      replace b0 := hE.cell b0
      clear hE hz
      go_wp2_with fail
      have hdr : Ext w5 w5.drew := extA
      have hS : w5.drew.cell? ⟨w.heap.size, 0, none⟩ = some (.bool s) := hdr.cell a0
      replace R := R.ext hdr
      replace E := E.trans hdr
      replace HX := Lib.hid (HX.out.ext hdr)
      replace HY := Lib.hid (HY.out.ext hdr)
      replace HM := Lib.hid (HM.out.ext hdr)
      have hzd : w5.drew.heap.size = w5.heap.size := rfl
      refine wp_region_heldE 7 (fun w' => w'.cell? ⟨w.heap.size, 0, none⟩ = some (.bool s)) (by kernel_rfl) ?_
      clear a0 b0 hdr
      generalize w5.drew = wd at R E HX HY HM hS hzd ⊢
      ((refine eTk 0 ?_); (refine eTk 1 ?_); (refine eTk 2 ?_); (refine eTk 3 ?_); (refine eTk 5 ?_))
      (refine wpAnyE_one (i := 4) (o := ?_) ?_ (by kernel_rfl) (fun K hK => ?_); rotate_left; (focus ((simp only [List.getElem?_toArray, List.getElem?_cons_succ, List.getElem?_cons_zero]; exact rfl))); go_simp; go_at_call 78; refine ((lessR_any X1 X2 _ _ xa ya xc yc _ rfl rfl HLE.out (by omega) HX.out HY.out).mono fun _ _ h => h.newBR).mono ?_; rintro e w4 ⟨pa, pc, rfl, hp, hpn, hE4⟩; go_wp2_with fail; refine hK.out _ _ ?_ (fun hHeld => ?_); rotate_left; clear hK K; (try simp only [Act.put, List.setIfInBounds_toArray, List.set_cons_zero, List.set_cons_succ]))
      rotate_left
      · exact hE4.cell hS
      have HPN : Hid (0 < (toB 1000000 (X1 - X2)).length → ∀ z, pa = some z → z.block ≠ w.heap.size + 1 + 1) := fun hl z hz => by have := hpn z hz; omega
      have HP := Lib.hid hp
      have R4 := R.ext hE4
      have E4 := E.trans hE4
      have HM4 := Lib.hid (HM.out.ext hE4)
      obtain ⟨c0, c1, c2, f0, f1, f2⟩ := R4
      have hSf := hE4.cell hS
      clear hE4 hp hpn R E HX HY HM hS hHeld
      (refine ePu 6 ?_)
      clear hSf
      (refine wpAnyE_free (i := 7) (o := ?_) ?_ (by kernel_rfl) (by kernel_rfl) (fun K hK => ?_); rotate_left; (focus ((simp only [List.getElem?_toArray, List.getElem?_cons_succ, List.getElem?_cons_zero]; exact rfl))); go_simp; refine hK.out _ _ ?_; clear hK K; (try simp only [Act.put, List.setIfInBounds_toArray, List.set_cons_zero, List.set_cons_succ]))
      refine wpAnyE_done (by kernel_rfl) ?_ _
      go_wp2_with fail
      refine bodyPost_ret (v := .agg #[.bool s, .slice pa (toB 1000000 (X1 - X2)).length pc, .slice ma (toB 1000000 X3).length mc]) (by rw [results_cell1 rfl]; go_simp) rfl ?_
      refine ⟨_, rfl, ?_, extA⟩
      rw [HE.out]
      exact ⟨pa, pc, ma, mc, rfl, HP.out.three HPN.out, HM4.out.three HMN.out⟩
    · have HE : Hid (SN = (r, X2 - X1, X3)) := HSN.out.trans (by rw [if_neg hsr, if_neg hle])
      obtain ⟨z, hz, hz0⟩ : ∃ z, ordN X1 X2 = z ∧ ¬ 0 ≤ z := ⟨_, rfl, fun h => hle (ordN_ge.1 h)⟩
      have HLE : Hid (X1 ≤ X2) := by show _ ≤ _; omega
      clear HSN hsr hle
      go_wp2_with fail
      refine (orderR_any X1 X2 _ _ xa ya xc yc w3 rfl rfl (by omega) (by omega) HX.out HY.out).mono ?_
      rintro e w5 ⟨rfl, hE⟩
      rw [hz]
      have hz5 := hE.size
      replace R := R.ext hE
      replace E := E.trans hE
      replace HX := Lib.hid (HX.out.ext hE)
      replace HY := Lib.hid (HY.out.ext hE)
      replace HM := Lib.hid (HM.out.ext hE)
      replace a0 := hE.cell a0
      replace b0 := hE.cell b0
      clear hE hz
      go_wp2_with fail
      have hdr : Ext w5 w5.drew := extA
      have hS : w5.drew.cell? ⟨w.heap.size + 1, 0, none⟩ = some (.bool r) := hdr.cell b0
      replace R := R.ext hdr
      replace E := E.trans hdr
      replace HX := Lib.hid (HX.out.ext hdr)
      replace HY := Lib.hid (HY.out.ext hdr)
      replace HM := Lib.hid (HM.out.ext hdr)
      have hzd : w5.drew.heap.size = w5.heap.size := rfl
      refine wp_region_heldE 7 (fun w' => w'.cell? ⟨w.heap.size + 1, 0, none⟩ = some (.bool r)) (by kernel_rfl) ?_
      clear a0 b0 hdr
      generalize w5.drew = wd at R E HX HY HM hS hzd ⊢
      ((refine eTk 0 ?_); (refine eTk 1 ?_); (refine eTk 2 ?_); (refine eTk 3 ?_); (refine eTk 5 ?_))
      (refine wpAnyE_one (i := 4) (o := ?_) ?_ (by kernel_rfl) (fun K hK => ?_); rotate_left; (focus ((simp only [List.getElem?_toArray, List.getElem?_cons_succ, List.getElem?_cons_zero]; exact rfl))); go_simp; go_at_call 78; refine ((lessR_any X2 X1 _ _ ya xa yc xc _ rfl rfl HLE.out (by omega) HY.out HX.out).mono fun _ _ h => h.newBR).mono ?_; rintro e w4 ⟨pa, pc, rfl, hp, hpn, hE4⟩; go_wp2_with fail; refine hK.out _ _ ?_ (fun hHeld => ?_); rotate_left; clear hK K; (try simp only [Act.put, List.setIfInBounds_toArray, List.set_cons_zero, List.set_cons_succ]))
      rotate_left
      · exact hE4.cell hS
      have HPN : Hid (0 < (toB 1000000 (X2 - X1)).length → ∀ z, pa = some z → z.block ≠ w.heap.size + 1 + 1) := fun hl z hz => by have := hpn z hz; omega
      have HP := Lib.hid hp
      have R4 := R.ext hE4
      have E4 := E.trans hE4
      have HM4 := Lib.hid (HM.out.ext hE4)
      obtain ⟨c0, c1, c2, f0, f1, f2⟩ := R4
      have hSf := hE4.cell hS
      clear hE4 hp hpn R E HX HY HM hS hHeld
      (refine ePu 6 ?_)
      clear hSf
      (refine wpAnyE_free (i := 7) (o := ?_) ?_ (by kernel_rfl) (by kernel_rfl) (fun K hK => ?_); rotate_left; (focus ((simp only [List.getElem?_toArray, List.getElem?_cons_succ, List.getElem?_cons_zero]; exact rfl))); go_simp; refine hK.out _ _ ?_; clear hK K; (try simp only [Act.put, List.setIfInBounds_toArray, List.set_cons_zero, List.set_cons_succ]))
      refine wpAnyE_done (by kernel_rfl) ?_ _
      go_wp2_with fail
      refine bodyPost_ret (v := .agg #[.bool r, .slice pa (toB 1000000 (X2 - X1)).length pc, .slice ma (toB 1000000 X3).length mc]) (by rw [results_cell1 rfl]; go_simp) rfl ?_
      refine ⟨_, rfl, ?_, extA⟩
      rw [HE.out]
      exact ⟨pa, pc, ma, mc, rfl, HP.out.three HPN.out, HM4.out.three HMN.out⟩
end Go.Proofs.YtbpjbhbbkonjlaaGreatDoor
namespace Go.Proofs.YtbpjbhbbkonjlaaGreatDoor
open Go.RowKit
open Go.Lib (decDigits itoa)
theorem pow60 : (1000000 : Nat) ^ 10 = 10 ^ 60 := by decide
theorem numOf_lenR {a : Txt} (h : fracE a = 0) : LenR 10 (numOf a) := by
  obtain ⟨h1, h2, h3, h4, h5, h6, _⟩ := frac_parts h
  rw [intV_abs] at h2
  exact ⟨toB_len (by omega) 10 (by rw [pow60]; exact h2), toB_len (by omega) 10 (by rw [pow60]; exact h5)⟩
theorem cmp_num {a b : Txt} (ea : fracE a = 0) (eb : fracE b = 0) : (fracQ a - fracQ b).num.sign = signN (sumN (numOf a) (negN (numOf b))) := by
  obtain ⟨h1, h2⟩ := sumN_val (x := numOf a) (y := negN (numOf b)) (numOf_len ea).2 (numOf_len eb).2
  have h3 : valQ (sumN (numOf a) (negN (numOf b))) = fracQ a - fracQ b := by rw [h1, negN_val, numOf_val, numOf_val, Rat.sub_eq_add_neg]
  rw [← h3]
  unfold valQ signN
  exact num_sign h2
set_option maxHeartbeats 4000000 in
set_option maxRecDepth 100000 in
theorem rOrder_any (a b : Txt) (w : World) (ea : fracE a = 0) (eb : fracE b = 0) (ha : a.length ≤ 400) (hb : b.length ≤ 400) :
    Calls Tryz.prog 26 #[txt a, txt b] w fun e w' => e = .returned (.int .i64 (fracQ a - fracQ b).num.sign) ∧ Ext w w' := by
  have HS := Lib.hid (cmp_num ea eb)
  have HN1 := Lib.hid (fun W => numR_any a W ea ha)
  have HN2 := Lib.hid (fun W => numR_any b W eb hb)
  have HL1 := Lib.hid (numOf_lenR ea)
  have HL2 := Lib.hid (numOf_lenR eb)
  rw [HS.out]
  clear HS ea eb
  generalize numOf a = NA at *
  generalize numOf b = NB at *
  obtain ⟨SN, hSN⟩ : ∃ SN, SN = sumN NA (negN NB) := ⟨_, rfl⟩
  rw [← hSN]
  have HSN := Lib.hid hSN
  clear hSN
  obtain ⟨s, t, d⟩ := SN
  by_cases h0 : t = 0
  · have hl : (((toB 1000000 t).length : Int) == 0) = true := by rw [lenR_zero h0]; rfl
    have HS : Hid (signN (s, t, d) = 0) := by show _ = _; unfold signN; rw [if_pos h0]
    clear h0
    go_enter Tryz.func26, Tryz.ntmps26
    go_wp2_with (go_at_call 56; have hh := HN1; clear HN1; refine (hh.out _).mono ?_; clear hh; rintro e w2 ⟨v2, rfl, n2, e2⟩)
    go_wp2_with (go_at_call 56; refine (HN2.out _).mono ?_; rintro e w3 ⟨v3, rfl, n3, e3⟩)
    have E := e2.trans e3
    have n2 := n2.ext e3
    go_wp2_with (go_at_call 57; refine (rTurn_any NB v3 w3 n3).mono ?_; rintro e w4 ⟨v4, rfl, n4, e4⟩)
    replace E := E.trans e4
    replace n2 := n2.ext e4
    go_wp2_with (go_at_call 55; refine (rSum_any NA (negN NB) v2 v4 w4 n2 n4 (HL1.out.mono (by omega)) (HL2.out.mono (by omega))).mono ?_; rintro e w5 ⟨v5, rfl, n5, e5⟩; rw [← HSN.out] at n5; obtain ⟨ta, tc, ba, bc, rfl, _, _⟩ := n5; dsimp only)
    replace E := E.trans e5
    go_ret
    exact ⟨ret_int HS.out.symm, extA⟩
  · have hl : (((toB 1000000 t).length : Int) == 0) = false := by rw [beq_eq_false_iff_ne]; have := lenR_pos h0; omega
    cases s
    · have HS : Hid (signN (false, t, d) = 1) := by show _ = _; unfold signN; rw [if_neg h0]; rfl
      clear h0
      go_enter Tryz.func26, Tryz.ntmps26
      go_wp2_with (go_at_call 56; have hh := HN1; clear HN1; refine (hh.out _).mono ?_; clear hh; rintro e w2 ⟨v2, rfl, n2, e2⟩)
      go_wp2_with (go_at_call 56; refine (HN2.out _).mono ?_; rintro e w3 ⟨v3, rfl, n3, e3⟩)
      have E := e2.trans e3
      have n2 := n2.ext e3
      go_wp2_with (go_at_call 57; refine (rTurn_any NB v3 w3 n3).mono ?_; rintro e w4 ⟨v4, rfl, n4, e4⟩)
      replace E := E.trans e4
      replace n2 := n2.ext e4
      go_wp2_with (go_at_call 55; refine (rSum_any NA (negN NB) v2 v4 w4 n2 n4 (HL1.out.mono (by omega)) (HL2.out.mono (by omega))).mono ?_; rintro e w5 ⟨v5, rfl, n5, e5⟩; rw [← HSN.out] at n5; obtain ⟨ta, tc, ba, bc, rfl, _, _⟩ := n5; dsimp only)
      replace E := E.trans e5
      go_ret
      exact ⟨ret_int HS.out.symm, extA⟩
    · have HS : Hid (signN (true, t, d) = -1) := by show _ = _; unfold signN; rw [if_neg h0]; rfl
      clear h0
      go_enter Tryz.func26, Tryz.ntmps26
      go_wp2_with (go_at_call 56; have hh := HN1; clear HN1; refine (hh.out _).mono ?_; clear hh; rintro e w2 ⟨v2, rfl, n2, e2⟩)
      go_wp2_with (go_at_call 56; refine (HN2.out _).mono ?_; rintro e w3 ⟨v3, rfl, n3, e3⟩)
      have E := e2.trans e3
      have n2 := n2.ext e3
      go_wp2_with (go_at_call 57; refine (rTurn_any NB v3 w3 n3).mono ?_; rintro e w4 ⟨v4, rfl, n4, e4⟩)
      replace E := E.trans e4
      replace n2 := n2.ext e4
      go_wp2_with (go_at_call 55; refine (rSum_any NA (negN NB) v2 v4 w4 n2 n4 (HL1.out.mono (by omega)) (HL2.out.mono (by omega))).mono ?_; rintro e w5 ⟨v5, rfl, n5, e5⟩; rw [← HSN.out] at n5; obtain ⟨ta, tc, ba, bc, rfl, _, _⟩ := n5; dsimp only)
      replace E := E.trans e5
      go_ret
      exact ⟨ret_int HS.out.symm, extA⟩
end Go.Proofs.YtbpjbhbbkonjlaaGreatDoor
namespace Go.Proofs.YtbpjbhbbkonjlaaGreatDoor
open Go.RowKit
open Go.Lib (decDigits itoa)
abbrev encV (a : Enc) : Value := .agg #[txt a.1, txt a.2]
def EncP (r : EncR) (w : World) (e : Ending) (w' : World) : Prop := e = .returned (.tuple #[encV r.1, .int .i64 (r.2 : Nat)]) ∧ Ext w w'
theorem cmp_bad {a b : Txt} (h : bothE a b ≠ 0) : cmpS a b = (0, bothE a b) := by unfold cmpS ifOk; rw [if_neg h]
theorem cmp_good {a b : Txt} (h : bothE a b = 0) : cmpS a b = (ordQ a b, 0) := by unfold cmpS ifOk; rw [if_pos h]; rfl
theorem encE_bad {a : Enc} (h : bothE a.1 a.2 ≠ 0) : encE a = bothE a.1 a.2 := by unfold encE; rw [if_neg h]
theorem encE_good {a : Enc} (h : bothE a.1 a.2 = 0) : encE a = if 0 < ordQ a.1 a.2 then 9 else 0 := by unfold encE; rw [if_pos h]
set_option maxHeartbeats 4000000 in
set_option maxRecDepth 100000 in
theorem eCheck_any (a : Enc) (w : World) (hG : Glob w) (hl : LenE a) : Calls Tryz.prog 58 #[encV a] w fun e w' => e = .returned (.int .i64 (encE a : Nat)) ∧ Ext w w' := by
  obtain ⟨l, h⟩ := a
  have HC := Lib.hid (fun W (hW : Ext w W) => compareF_any l h W (hG.ext hW) hl.1 hl.2)
  clear hG
  unfold IntP at HC
  have E : Ext w (w.alloc (.cells #[txt l, txt h] 36)) := extA
  by_cases hb : bothE l h = 0
  · rw [cmp_good hb] at HC
    have HE : Hid (encE (l, h) = if 0 < ordQ l h then 9 else 0) := encE_good (a := (l, h)) hb
    clear hb hl
    generalize ordQ l h = z at *
    have hne0 : (((0 : Nat) : Int) != 0) = false := rfl
    by_cases hz : 0 < z
    · have HR : Hid (encE (l, h) = 9) := by show _ = _; rw [HE.out, if_pos hz]
      clear HE
      go_enter Tryz.func58, Tryz.ntmps58
      go_wp2_with (go_at_call 79; refine (HC.out _ E).mono ?_; rintro e w1 ⟨rfl, hE⟩)
      go_ret
      exact ⟨by rw [HR.out]; rfl, E.trans hE⟩
    · have HR : Hid (encE (l, h) = 0) := by show _ = _; rw [HE.out, if_neg hz]
      clear HE
      go_enter Tryz.func58, Tryz.ntmps58
      go_wp2_with (go_at_call 79; refine (HC.out _ E).mono ?_; rintro e w1 ⟨rfl, hE⟩)
      go_ret
      exact ⟨by rw [HR.out]; rfl, E.trans hE⟩
  · rw [cmp_bad hb] at HC
    have HR : Hid (encE (l, h) = bothE l h) := encE_bad (a := (l, h)) hb
    have hne : (((bothE l h : Nat) : Int) != 0) = true := by rw [bne_iff_ne]; omega
    clear hb hl
    generalize bothE l h = n at *
    go_enter Tryz.func58, Tryz.ntmps58
    go_wp2_with (go_at_call 79; refine (HC.out _ E).mono ?_; rintro e w1 ⟨rfl, hE⟩)
    go_ret
    exact ⟨by rw [HR.out]; rfl, E.trans hE⟩
set_option maxHeartbeats 4000000 in
set_option maxRecDepth 100000 in
theorem rCheck2_any (a : Enc) (w : World) (hl : LenE a) : Calls Tryz.prog 10 #[encV a] w fun e w' => e = .returned (.int .i64 (encE a : Nat)) ∧ Ext w w' := by
  obtain ⟨l, h⟩ := a
  have HL := Lib.hid (fun W => checkR_any l W hl.1)
  have HH := Lib.hid (fun W => checkR_any h W hl.2)
  by_cases el : fracE l = 0
  · rw [el] at HL
    by_cases eh : fracE h = 0
    · rw [eh] at HH
      have HO := Lib.hid (fun W => rOrder_any l h W el eh hl.1 hl.2)
      have HE : Hid (encE (l, h) = if 0 < ordQ l h then 9 else 0) := encE_good (a := (l, h)) (bothE_zero el eh)
      have hoq : (fracQ l - fracQ h).num.sign = ordQ l h := rfl
      rw [hoq] at HO
      clear el eh hl hoq
      generalize ordQ l h = z at *
      by_cases hz : 0 < z
      · have HR : Hid (encE (l, h) = 9) := by show _ = _; rw [HE.out, if_pos hz]
        clear HE
        have c0 : (w.alloc (.cells #[txt l, txt h] 36)).cell? ⟨w.heap.size, 0, none⟩ = some (txt l) := by go_simp
        have c1 : (w.alloc (.cells #[txt l, txt h] 36)).cell? ⟨w.heap.size, 1, none⟩ = some (txt h) := by go_simp
        go_enter Tryz.func10, Tryz.ntmps10
        go_wp2_with (first
          | (go_at_call 25; first | (with_reducible refine (HL.out _).mono ?_; rintro e w1 ⟨rfl, hE1⟩; have c0 := hE1.cell c0; have c1 := hE1.cell c1) | (with_reducible refine (HH.out _).mono ?_; rintro e w2 ⟨rfl, hE2⟩; have c0 := hE2.cell c0; have c1 := hE2.cell c1))
          | (go_at_call 26; with_reducible refine (HO.out _).mono ?_; rintro e w3 ⟨rfl, hE3⟩; have c0 := hE3.cell c0; have c1 := hE3.cell c1))
        go_ret
        exact ⟨by rw [HR.out]; rfl, extA⟩
      · have HR : Hid (encE (l, h) = 0) := by show _ = _; rw [HE.out, if_neg hz]
        clear HE
        have c0 : (w.alloc (.cells #[txt l, txt h] 36)).cell? ⟨w.heap.size, 0, none⟩ = some (txt l) := by go_simp
        have c1 : (w.alloc (.cells #[txt l, txt h] 36)).cell? ⟨w.heap.size, 1, none⟩ = some (txt h) := by go_simp
        go_enter Tryz.func10, Tryz.ntmps10
        go_wp2_with (first
          | (go_at_call 25; first | (with_reducible refine (HL.out _).mono ?_; rintro e w1 ⟨rfl, hE1⟩; have c0 := hE1.cell c0; have c1 := hE1.cell c1) | (with_reducible refine (HH.out _).mono ?_; rintro e w2 ⟨rfl, hE2⟩; have c0 := hE2.cell c0; have c1 := hE2.cell c1))
          | (go_at_call 26; with_reducible refine (HO.out _).mono ?_; rintro e w3 ⟨rfl, hE3⟩; have c0 := hE3.cell c0; have c1 := hE3.cell c1))
        go_ret
        exact ⟨by rw [HR.out]; rfl, extA⟩
    · have HR : Hid (encE (l, h) = fracE h) := by
        show _ = _
        have hb : bothE l h = fracE h := bothE_right el
        rw [encE_bad (a := (l, h)) (by show bothE l h ≠ 0; rw [hb]; exact eh)]
        exact hb
      have hne : (((fracE h : Nat) : Int) != 0) = true := by rw [bne_iff_ne]; omega
      clear el eh hl
      generalize fracE h = n at *
      have c0 : (w.alloc (.cells #[txt l, txt h] 36)).cell? ⟨w.heap.size, 0, none⟩ = some (txt l) := by go_simp
      have c1 : (w.alloc (.cells #[txt l, txt h] 36)).cell? ⟨w.heap.size, 1, none⟩ = some (txt h) := by go_simp
      go_enter Tryz.func10, Tryz.ntmps10
      go_wp2_with (go_at_call 25; first | (with_reducible refine (HL.out _).mono ?_; rintro e w1 ⟨rfl, hE1⟩; have c0 := hE1.cell c0; have c1 := hE1.cell c1) | (with_reducible refine (HH.out _).mono ?_; rintro e w2 ⟨rfl, hE2⟩; have c0 := hE2.cell c0; have c1 := hE2.cell c1))
      go_ret
      exact ⟨by rw [HR.out]; rfl, extA⟩
  · have HR : Hid (encE (l, h) = fracE l) := by
      show _ = _
      have hb : bothE l h = fracE l := bothE_left el
      rw [encE_bad (a := (l, h)) (by show bothE l h ≠ 0; rw [hb]; exact el)]
      exact hb
    have hne : (((fracE l : Nat) : Int) != 0) = true := by rw [bne_iff_ne]; omega
    clear el hl HH
    generalize fracE l = n at *
    have c0 : (w.alloc (.cells #[txt l, txt h] 36)).cell? ⟨w.heap.size, 0, none⟩ = some (txt l) := by go_simp
    have c1 : (w.alloc (.cells #[txt l, txt h] 36)).cell? ⟨w.heap.size, 1, none⟩ = some (txt h) := by go_simp
    go_enter Tryz.func10, Tryz.ntmps10
    go_wp2_with (go_at_call 25; with_reducible refine (HL.out _).mono ?_; rintro e w1 ⟨rfl, hE1⟩; have c0 := hE1.cell c0; have c1 := hE1.cell c1)
    go_ret
    exact ⟨by rw [HR.out]; rfl, extA⟩
end Go.Proofs.YtbpjbhbbkonjlaaGreatDoor
namespace Go.Proofs.YtbpjbhbbkonjlaaGreatDoor
open Go.RowKit
open Go.Lib (decDigits itoa)
def CellsT (w : World) (a : Option Addr) (l : List Txt) : Prop :=
  ∀ i, i < l.length → ∃ b off, a = some ⟨b, off, none⟩ ∧ w.cell? ⟨b, off + i, none⟩ = some (txt (l.getD i []))
theorem CellsT.ext {w w' : World} {a : Option Addr} {l : List Txt} (h : CellsT w a l) (he : Ext w w') : CellsT w' a l := fun i hi => by
  obtain ⟨b, off, h1, h2⟩ := h i hi
  exact ⟨b, off, h1, he.cell h2⟩
end Go.Proofs.YtbpjbhbbkonjlaaGreatDoor
namespace Go.Proofs.YtbpjbhbbkonjlaaGreatDoor
open Go.RowKit
open Go.Lib (decDigits itoa)
end Go.Proofs.YtbpjbhbbkonjlaaGreatDoor
namespace Go.Proofs.YtbpjbhbbkonjlaaGreatDoor
open Go.RowKit
theorem cell_new2 (w : World) (arr : Array Value) (t : TypeId) (i : Nat) (v : Value) (h : arr[i]? = some v) : (w.alloc (.cells arr t)).cell? ⟨w.heap.size, i, none⟩ = some v := by
  have hh : (w.alloc (.cells arr t)).heap[w.heap.size]? = some (.cells arr t) := by show (w.heap.push _)[w.heap.size]? = _; rw [Array.getElem?_push, if_pos rfl]
  simp only [World.cell?, hh]
  first | exact h | (rw [h]; rfl)
def CellsE (w : World) (a : Option Addr) (l : List Enc) : Prop :=
  ∀ i, i < l.length → ∃ b off, a = some ⟨b, off, none⟩ ∧ w.cell? ⟨b, off + i * 2, none⟩ = some (txt (l.getD i ([], [])).1) ∧ w.cell? ⟨b, off + i * 2 + 1, none⟩ = some (txt (l.getD i ([], [])).2)
theorem CellsE.ext {w w' : World} {a : Option Addr} {l : List Enc} (h : CellsE w a l) (he : Ext w w') : CellsE w' a l := fun i hi => by
  obtain ⟨b, off, h1, h2, h3⟩ := h i hi
  exact ⟨b, off, h1, he.cell h2, he.cell h3⟩
def firstEE : List Enc → Nat
  | [] => 0
  | a :: l => if encE a = 0 then firstEE l else encE a
theorem firstEE_two (a b : Enc) : firstEE [a, b] = bothEE a b := by
  unfold firstEE bothEE
  split
  · unfold firstEE
    split
    · rename_i h; rw [h]; rfl
    · rfl
  · rfl
theorem getD_enc {l : List Enc} {k : Nat} (h : k < l.length) : l.getD k ([], []) = l[k] := by simp [List.getD, h]
theorem mem_enc {l : List Enc} {k : Nat} (h : k < l.length) : l.getD k ([], []) ∈ l := by rw [getD_enc h]; exact List.getElem_mem h
theorem firstEE_drop {l : List Enc} {k : Nat} (h : k < l.length) : firstEE (l.drop k) = if encE (l.getD k ([], [])) = 0 then firstEE (l.drop (k + 1)) else encE (l.getD k ([], [])) := by
  rw [List.drop_eq_getElem_cons h, getD_enc h]; rfl
set_option maxHeartbeats 4000000 in
set_option maxRecDepth 100000 in
theorem eChecked_any (l : List Enc) (a : Option Addr) (cap : Nat) (w : World) (hG : Glob w) (hc : CellsE w a l) (hm : l.length ≤ 1000) (hl : ∀ x ∈ l, LenE x) :
    Calls Tryz.prog 30 #[.slice a l.length cap] w fun e w' => e = .returned (.int .i64 (firstEE l : Nat)) ∧ Ext w w' := by
  have HC := Lib.hid hc
  have HK := Lib.hid (fun k (hk : k < l.length) W (hW : Ext w W) => eCheck_any (l.getD k ([], [])) W (hG.ext hW) (hl _ (mem_enc hk)))
  obtain ⟨S, hS⟩ : ∃ S, S = firstEE l := ⟨_, rfl⟩
  have HS := Lib.hid hS
  rw [← hS]
  clear hc hl hG hS
  go_enter Tryz.func30, Tryz.ntmps30
  go_wp2
  go_loopw [8] (fun i wr => ∃ k : Nat, k ≤ l.length ∧ i = .int .i64 k ∧ Hid (S = firstEE (l.drop k)) ∧ Ext w wr) (fun i _ => l.length - (intOf i).toNat)
  case atStart => exact ⟨0, by omega, rfl, HS.out, Ext.refl _⟩
  case round =>
    obtain ⟨k, hk, rfl, HE, he⟩ := hrel
    by_cases hlt : k < l.length
    · have hki : (k : Int) < (l.length : Int) := by omega
      obtain ⟨b, off, ha, hc1, hc2⟩ := HC.out.ext he k hlt
      subst ha
      have HKX := Lib.hid (HK.out k hlt)
      have hst := firstEE_drop hlt
      by_cases hx : encE (l.getD k ([], [])) = 0
      · have HE2 : Hid (S = firstEE (l.drop (k + 1))) := by show _ = _; rw [HE.out, hst, if_pos hx]
        rw [hx] at HKX
        generalize l.getD k ([], []) = x at hc1 hc2 HKX
        obtain ⟨x1, x2⟩ := x
        dsimp only [encV] at hc1 hc2 HKX
        clear hx HE hst
        go_wp2_with (go_at_call 58; refine (HKX.out _ extA).mono ?_; rintro e w1 ⟨rfl, hE⟩)
        refine ⟨⟨k + 1, by omega, by go_num, HE2, (he.trans ((Ext.refl _).alloc _)).trans hE⟩, by simp [intOf]; omega⟩
      · have hfe : S = encE (l.getD k ([], [])) := by rw [HE.out, hst, if_neg hx]
        have HR := Lib.hid hfe
        have hne : (((encE (l.getD k ([], [])) : Nat) : Int) != 0) = true := by rw [bne_iff_ne]; omega
        clear hx HE hst hfe
        generalize encE (l.getD k ([], [])) = n at *
        generalize l.getD k ([], []) = x at hc1 hc2 HKX
        obtain ⟨x1, x2⟩ := x
        dsimp only [encV] at hc1 hc2 HKX
        go_wp2_with (go_at_call 58; refine (HKX.out _ extA).mono ?_; rintro e w1 ⟨rfl, hE⟩)
        go_ret
        exact ⟨by rw [HR.out]; rfl, (he.trans ((Ext.refl _).alloc _)).trans hE⟩
    · have hki : ¬ (k : Int) < (l.length : Int) := by omega
      have HR : Hid (S = 0) := by show _ = _; rw [HE.out, List.drop_eq_nil_of_le (by omega)]; rfl
      clear HE
      go_wp2
      go_ret
      exact ⟨by rw [HR.out]; rfl, he⟩
end Go.Proofs.YtbpjbhbbkonjlaaGreatDoor
namespace Go.Proofs.YtbpjbhbbkonjlaaGreatDoor
open Go.RowKit
theorem bothEE_two {a b : Enc} (h : bothEE a b = 0) : encE a = 0 ∧ encE b = 0 := by
  unfold bothEE at h
  by_cases ea : encE a = 0
  · rw [if_pos ea] at h; exact ⟨ea, h⟩
  · rw [if_neg ea] at h; exact absurd h ea
theorem pair_enc (w : World) (a b : Enc) (t : TypeId) : CellsE (w.alloc (.cells #[txt a.1, txt a.2, txt b.1, txt b.2] t)) (some ⟨w.heap.size, 0, none⟩) [a, b] := fun i hi => by
  refine ⟨w.heap.size, 0, rfl, ?_, ?_⟩
  · rcases i with _ | _ | i
    · exact cell_new2 w _ t 0 _ rfl
    · exact cell_new2 w _ t 2 _ rfl
    · simp at hi; omega
  · rcases i with _ | _ | i
    · exact cell_new2 w _ t 1 _ rfl
    · exact cell_new2 w _ t 3 _ rfl
    · simp at hi; omega
end Go.Proofs.YtbpjbhbbkonjlaaGreatDoor
namespace Go.Proofs.YtbpjbhbbkonjlaaGreatDoor
open Go.RowKit
structure Right2 (l h m k : Txt) : Prop where
  l : fracE l = 0
  h : fracE h = 0
  m : fracE m = 0
  k : fracE k = 0
end Go.Proofs.YtbpjbhbbkonjlaaGreatDoor
namespace Go.Proofs.YtbpjbhbbkonjlaaGreatDoor
open Go.RowKit
theorem checked_two (a b : Enc) (w : World) (hG : Glob w) (hl : LenE a) (hm : LenE b) : ∀ W (v : World) (n : Nat), n = v.heap.size → W = v.alloc (.cells #[txt a.1, txt a.2, txt b.1, txt b.2] 36) → Ext w W → Calls Tryz.prog 30 #[.slice (some ⟨n, 0, none⟩) 2 2] W fun e w' => e = .returned (.int .i64 (bothEE a b : Nat)) ∧ Ext W w' := fun W v n hn hW h => by
  rw [hn]
  have k := eChecked_any [a, b] (some ⟨v.heap.size, 0, none⟩) 2 W (hG.ext h) (by rw [hW]; exact pair_enc v a b _) (by simp) (fun x hx => by
    simp only [List.mem_cons, List.mem_nil_iff, or_false] at hx
    rcases hx with rfl | rfl
    · exact hl
    · exact hm)
  rw [firstEE_two] at k
  exact k
end Go.Proofs.YtbpjbhbbkonjlaaGreatDoor
namespace Go.Proofs.YtbpjbhbbkonjlaaGreatDoor
open Go.RowKit
theorem point_of (x : Txt) : ofE x x = pointE x := by
  have hb : bothE x x = fracE x := by unfold bothE; split <;> first | rfl | (rename_i h; rfl)
  have h0 : ordQ x x = 0 := by unfold ordQ; rw [Rat.sub_self]; rfl
  have he : encE (x, x) = fracE x := by
    unfold encE
    dsimp only
    rw [hb, h0]
    by_cases h : fracE x = 0
    · rw [if_pos h, if_neg (by decide), h]
    · rw [if_neg h]
  unfold ofE pointE
  rw [he]
structure EncAt (b : Nat) (W : World) (l h : Txt) : Prop where
  c0 : W.cell? ⟨b, 0, none⟩ = some (txt l)
  c1 : W.cell? ⟨b, 1, none⟩ = some (txt h)
  f0 : W.frozen? ⟨b, 0, none⟩ = false
  f1 : W.frozen? ⟨b, 1, none⟩ = false
theorem EncAt.ext {b : Nat} {A B : World} {l h : Txt} (x : EncAt b A l h) (e : Ext A B) : EncAt b B l h := by
  have hz : b < A.heap.size := cell_lt x.c0
  exact ⟨e.cell x.c0, e.cell x.c1, (Below.frozen (p := ⟨b, 0, none⟩) e hz).trans x.f0, (Below.frozen (p := ⟨b, 1, none⟩) e hz).trans x.f1⟩
set_option maxHeartbeats 4000000 in
set_option maxRecDepth 100000 in
theorem eOf_any (l h : Txt) (w : World) (hG : Glob w) (hl : LenE (l, h)) : Calls Tryz.prog 27 #[txt l, txt h] w (EncP (ofE l h) w) := by
  have HC := Lib.hid (fun W (hW : Ext w W) => eCheck_any (l, h) W (hG.ext hW) hl)
  dsimp only [encV] at HC
  unfold EncP
  obtain ⟨C, hC⟩ : ∃ C, C = ofE l h := ⟨_, rfl⟩
  rw [← hC]
  have hne0 : (((0 : Nat) : Int) != 0) = false := rfl
  by_cases ea : encE (l, h) = 0
  · have HR : Hid (C = ((l, h), 0)) := by show _ = _; rw [hC]; unfold ofE; rw [if_neg (not_not_intro ea)]
    rw [ea] at HC
    clear ea hC hl hG
    have X : EncAt w.heap.size ((w.alloc (.cells #[.string ⟨#[]⟩, .string ⟨#[]⟩] 36)).alloc (.cells #[txt l, txt h] 36)) [] [] := ⟨by go_simp, by go_simp, by go_simp, by go_simp⟩
    have Y : EncAt (w.heap.size + 1) ((w.alloc (.cells #[.string ⟨#[]⟩, .string ⟨#[]⟩] 36)).alloc (.cells #[txt l, txt h] 36)) l h := ⟨by go_simp, by go_simp, by go_simp, by go_simp⟩
    go_enter Tryz.func27, Tryz.ntmps27
    go_wp2_with (go_at_call 58; (with_reducible refine (HC.out _ extA).mono ?_); rintro e w1 ⟨rfl, hE1⟩; obtain ⟨d0, d1, g0, g1⟩ := X.ext hE1; obtain ⟨c0, c1, e0, e1⟩ := Y.ext hE1)
    refine bodyPost_ret (v := .tuple #[.agg #[txt l, txt h], .int .i64 0]) (by rw [results_cell_tmp1 rfl]; go_simp) rfl ?_
    exact ⟨by first | (rw [HR.out]; done) | (rw [HR.out]; rfl), extA⟩
  · have HR : Hid (C = (([], []), encE (l, h))) := by show _ = _; rw [hC]; unfold ofE badEnc; rw [if_pos ea]
    have hne : (((encE (l, h) : Nat) : Int) != 0) = true := by rw [bne_iff_ne]; omega
    clear ea hC hl hG
    generalize encE (l, h) = n at *
    have X : EncAt w.heap.size ((w.alloc (.cells #[.string ⟨#[]⟩, .string ⟨#[]⟩] 36)).alloc (.cells #[txt l, txt h] 36)) [] [] := ⟨by go_simp, by go_simp, by go_simp, by go_simp⟩
    have Y : EncAt (w.heap.size + 1) ((w.alloc (.cells #[.string ⟨#[]⟩, .string ⟨#[]⟩] 36)).alloc (.cells #[txt l, txt h] 36)) l h := ⟨by go_simp, by go_simp, by go_simp, by go_simp⟩
    go_enter Tryz.func27, Tryz.ntmps27
    go_wp2_with (go_at_call 58; (with_reducible refine (HC.out _ extA).mono ?_); rintro e w1 ⟨rfl, hE1⟩; obtain ⟨d0, d1, g0, g1⟩ := X.ext hE1; obtain ⟨c0, c1, e0, e1⟩ := Y.ext hE1)
    refine bodyPost_ret (v := .tuple #[.agg #[txt [], txt []], .int .i64 (n : Nat)]) (by rw [results_cell_tmp1 rfl]; go_simp) rfl ?_
    exact ⟨by first | (rw [HR.out]; done) | (rw [HR.out]; rfl), extA⟩
end Go.Proofs.YtbpjbhbbkonjlaaGreatDoor
namespace Go.Proofs.YtbpjbhbbkonjlaaGreatDoor
open Go.RowKit
set_option maxHeartbeats 4000000 in
set_option maxRecDepth 100000 in
theorem ePoint_any (x : Txt) (w : World) (hG : Glob w) (hx : x.length ≤ 400) : Calls Tryz.prog 11 #[txt x] w (EncP (pointE x) w) := by
  have HO := Lib.hid (fun W (hW : Ext w W) => eOf_any x x W (hG.ext hW) ⟨hx, hx⟩)
  rw [point_of] at HO
  unfold EncP at HO ⊢
  clear hG hx
  generalize pointE x = R at *
  obtain ⟨⟨l, h⟩, n⟩ := R
  dsimp only [encV] at HO ⊢
  have X : EncAt w.heap.size (w.alloc (.cells #[.string ⟨#[]⟩, .string ⟨#[]⟩] 36)) [] [] := ⟨by go_simp, by go_simp, by go_simp, by go_simp⟩
  go_enter Tryz.func11, Tryz.ntmps11
  go_wp2_with (go_at_call 27; (with_reducible refine (HO.out _ extA).mono ?_); rintro e w1 ⟨rfl, hE1⟩; obtain ⟨d0, d1, g0, g1⟩ := X.ext hE1)
  refine bodyPost_ret (v := .tuple #[.agg #[txt l, txt h], .int .i64 (n : Nat)]) (by rw [results_cell_tmp1 rfl]; go_simp) rfl ?_
  exact ⟨rfl, extA⟩
end Go.Proofs.YtbpjbhbbkonjlaaGreatDoor
namespace Go.Proofs.YtbpjbhbbkonjlaaGreatDoor
open Go.RowKit
theorem EncAt.set0 {b : Nat} {A : World} {l h : Txt} (x : EncAt b A l h) (v : Txt) : EncAt b (A.setCell ⟨b, 0, none⟩ (txt v)) v h :=
  ⟨World.cell?_setCell_same _ _ _ x.c0, by rw [World.cell?_setCell_other _ _ _ _ (fun h => by simp only [Addr.mk.injEq] at h; omega)]; exact x.c1, by rw [World.frozen?_setCell]; exact x.f0, by rw [World.frozen?_setCell]; exact x.f1⟩
theorem EncAt.set1 {b : Nat} {A : World} {l h : Txt} (x : EncAt b A l h) (v : Txt) : EncAt b (A.setCell ⟨b, 1, none⟩ (txt v)) l v :=
  ⟨by rw [World.cell?_setCell_other _ _ _ _ (fun h => by simp only [Addr.mk.injEq] at h; omega)]; exact x.c0, World.cell?_setCell_same _ _ _ x.c1, by rw [World.frozen?_setCell]; exact x.f0, by rw [World.frozen?_setCell]; exact x.f1⟩
theorem EncAt.other {b c o : Nat} {A : World} {l h : Txt} {v : Value} (x : EncAt b A l h) (hn : b ≠ c) : EncAt b (A.setCell ⟨c, o, none⟩ v) l h :=
  ⟨by rw [World.cell?_setCell_other _ _ _ _ (fun h => by simp only [Addr.mk.injEq] at h; omega)]; exact x.c0, by rw [World.cell?_setCell_other _ _ _ _ (fun h => by simp only [Addr.mk.injEq] at h; omega)]; exact x.c1, by rw [World.frozen?_setCell]; exact x.f0, by rw [World.frozen?_setCell]; exact x.f1⟩
end Go.Proofs.YtbpjbhbbkonjlaaGreatDoor
namespace Go.Proofs.YtbpjbhbbkonjlaaGreatDoor
open Go.RowKit
end Go.Proofs.YtbpjbhbbkonjlaaGreatDoor
namespace Go.Proofs.YtbpjbhbbkonjlaaGreatDoor
open Go.RowKit
end Go.Proofs.YtbpjbhbbkonjlaaGreatDoor
namespace Go.Proofs.YtbpjbhbbkonjlaaGreatDoor
open Go.RowKit
set_option maxHeartbeats 2000000 in
theorem eBelow_any (a : Txt) (w : World) : Calls Tryz.prog 146 #[txt a] w fun e w' => e = .returned (.bool (negS a)) ∧ w' = w := by
  have HP : Hid (∀ W, Calls Tryz.prog 166 #[txt a, txt [45]] W fun e w' => e = .returned (.bool (negS a)) ∧ w' = W) := fun W => by
    refine (Tryz.strings_HasPrefix ⟨a.toArray⟩ ⟨#[45]⟩ W).mono fun e w' h => ?_
    obtain ⟨h1, h2⟩ := h
    refine ⟨?_, h2⟩
    have e1 : ((⟨a.toArray⟩ : ByteArray).data.toList) = a := rfl
    have e2 : ((⟨#[45]⟩ : ByteArray).data.toList) = [45] := rfl
    rw [e1, e2, (trimP_bare a).2] at h1
    exact h1
  go_enter Tryz.func146, Tryz.ntmps146
  go_wp2_with (go_at_call 166; (refine (HP.out _).mono ?_); rintro e w' ⟨rfl, rfl⟩)
  go_ret
  exact ⟨rfl, rfl⟩
set_option maxHeartbeats 2000000 in
theorem ePi_any (w : World) : Calls Tryz.prog 72 #[] w fun e w' => e = .returned (encV ([50, 50, 51, 47, 55, 49], [50, 50, 47, 55])) ∧ Ext w w' := by
  go_enter Tryz.func72, Tryz.ntmps72
  go_wp2
  refine bodyPost_ret (v := .agg #[txt [50, 50, 51, 47, 55, 49], txt [50, 50, 47, 55]]) (by rw [results_cell1 rfl]; go_simp) rfl ?_
  exact ⟨rfl, extA⟩
end Go.Proofs.YtbpjbhbbkonjlaaGreatDoor
namespace Go.Proofs.YtbpjbhbbkonjlaaGreatDoor
open Go.RowKit
theorem ends_bad1 {r s : Res} (h : r.2 ≠ 0) : endsR r s = (([], []), r.2) := by unfold endsR badEnc; rw [if_pos h]
theorem ends_bad2 {r s : Res} (h : r.2 = 0) (k : s.2 ≠ 0) : endsR r s = (([], []), s.2) := by unfold endsR badEnc; rw [if_neg (not_not_intro h), if_pos k]
theorem ends_good {r s : Res} (h : r.2 = 0) (k : s.2 = 0) : endsR r s = ((r.1, s.1), 0) := by unfold endsR; rw [if_neg (not_not_intro h), if_neg (not_not_intro k)]
set_option maxHeartbeats 8000000 in
set_option maxRecDepth 100000 in
theorem eEnds_any (f : Nat) (a b c d : Txt) (r s : Res) (w : World) (heg : ∀ args w, (callFunc f args).run Tryz.prog w = .ok (.enter f args) w)
    (h1 : ∀ W, Ext w W → Calls Tryz.prog f #[txt a, txt b] W (ResP r W)) (h2 : ∀ W, Ext w W → Calls Tryz.prog f #[txt c, txt d] W (ResP s W)) :
    Calls Tryz.prog 31 #[.func (.func f) #[] #[], .agg #[txt a, txt b, txt c, txt d]] w (EncP (endsR r s) w) := by
  have H1 := Lib.hid h1
  have H2 := Lib.hid h2
  unfold ResP at H1 H2
  unfold EncP
  clear h1 h2
  have hi0 : ∀ W, (Instr.index 75 (.agg #[txt a, txt b, txt c, txt d]) (.int .i64 0)).run Tryz.prog W = .ok (.agg #[txt a, txt b]) W := fun W => by simp [Instr.index, go_sem]
  have hi1 : ∀ W, (Instr.index 75 (.agg #[txt a, txt b, txt c, txt d]) (.int .i64 1)).run Tryz.prog W = .ok (.agg #[txt c, txt d]) W := fun W => by simp [Instr.index, go_sem]
  obtain ⟨r1, r2⟩ := r
  obtain ⟨s1, s2⟩ := s
  dsimp only at H1 H2
  obtain ⟨C, hC⟩ : ∃ C, C = endsR (r1, r2) (s1, s2) := ⟨_, rfl⟩
  rw [← hC]
  by_cases hr : r2 = 0
  rotate_left
  · have HR : Hid (C = (([], []), r2)) := by show _ = _; rw [hC]; exact ends_bad1 hr
    have hne : ((r2 : Int) != 0) = true := by rw [bne_iff_ne]; omega
    clear hr hC
    have X : EncAt (w.heap.size + 1) ((((w.alloc (.cells #[txt a, txt b, txt c, txt d] 75)).alloc (.cells #[.string ⟨#[]⟩, .string ⟨#[]⟩] 36)).alloc (.cells #[.string ⟨#[]⟩, .string ⟨#[]⟩] 74)).alloc (.cells #[txt a, txt b] 74)) [] [] := ⟨by go_simp, by go_simp, by go_simp, by go_simp⟩
    have O : EncAt (w.heap.size + 1 + 1) ((((w.alloc (.cells #[txt a, txt b, txt c, txt d] 75)).alloc (.cells #[.string ⟨#[]⟩, .string ⟨#[]⟩] 36)).alloc (.cells #[.string ⟨#[]⟩, .string ⟨#[]⟩] 74)).alloc (.cells #[txt a, txt b] 74)) [] [] := ⟨by go_simp, by go_simp, by go_simp, by go_simp⟩
    have EV : Ext w ((((w.alloc (.cells #[txt a, txt b, txt c, txt d] 75)).alloc (.cells #[.string ⟨#[]⟩, .string ⟨#[]⟩] 36)).alloc (.cells #[.string ⟨#[]⟩, .string ⟨#[]⟩] 74)).alloc (.cells #[txt a, txt b] 74)) := extA
    go_enter Tryz.func31, Tryz.ntmps31
    go_wp2
    refine wp_loop_rounds 3 ?_
    rw [rounds_succ]
    go_wp2_with fail
    generalize ((((w.alloc (.cells #[txt a, txt b, txt c, txt d] 75)).alloc (.cells #[.string ⟨#[]⟩, .string ⟨#[]⟩] 36)).alloc (.cells #[.string ⟨#[]⟩, .string ⟨#[]⟩] 74)).alloc (.cells #[txt a, txt b] 74)) = w4 at X O EV ⊢
    refine (H1.out _ EV).mono ?_
    rintro e w5 ⟨rfl, hE⟩
    have X5 := X.ext hE
    have O5 := O.ext hE
    have E := EV.trans hE
    clear X O EV hE
    obtain ⟨d0, d1, g0, g1⟩ := X5
    obtain ⟨y0, y1, p0, p1⟩ := O5
    go_wp2_with fail
    refine bodyPost_ret (v := .tuple #[.agg #[txt [], txt []], .int .i64 (r2 : Nat)]) (by rw [results_cell_tmp1 rfl]; go_simp) rfl ?_
    exact ⟨by first | (rw [HR.out]; done) | (rw [HR.out]; rfl), extA⟩
  subst hr
  have hne0 : (((0 : Nat) : Int) != 0) = false := rfl
  by_cases hs : s2 = 0
  rotate_left
  · have HR : Hid (C = (([], []), s2)) := by show _ = _; rw [hC]; exact ends_bad2 rfl hs
    have hne : ((s2 : Int) != 0) = true := by rw [bne_iff_ne]; omega
    clear hs hC
    have X : EncAt (w.heap.size + 1) ((((w.alloc (.cells #[txt a, txt b, txt c, txt d] 75)).alloc (.cells #[.string ⟨#[]⟩, .string ⟨#[]⟩] 36)).alloc (.cells #[.string ⟨#[]⟩, .string ⟨#[]⟩] 74)).alloc (.cells #[txt a, txt b] 74)) [] [] := ⟨by go_simp, by go_simp, by go_simp, by go_simp⟩
    have O : EncAt (w.heap.size + 1 + 1) ((((w.alloc (.cells #[txt a, txt b, txt c, txt d] 75)).alloc (.cells #[.string ⟨#[]⟩, .string ⟨#[]⟩] 36)).alloc (.cells #[.string ⟨#[]⟩, .string ⟨#[]⟩] 74)).alloc (.cells #[txt a, txt b] 74)) [] [] := ⟨by go_simp, by go_simp, by go_simp, by go_simp⟩
    have EV : Ext w ((((w.alloc (.cells #[txt a, txt b, txt c, txt d] 75)).alloc (.cells #[.string ⟨#[]⟩, .string ⟨#[]⟩] 36)).alloc (.cells #[.string ⟨#[]⟩, .string ⟨#[]⟩] 74)).alloc (.cells #[txt a, txt b] 74)) := extA
    go_enter Tryz.func31, Tryz.ntmps31
    go_wp2
    refine wp_loop_rounds 3 ?_
    rw [rounds_succ]
    go_wp2_with fail
    generalize ((((w.alloc (.cells #[txt a, txt b, txt c, txt d] 75)).alloc (.cells #[.string ⟨#[]⟩, .string ⟨#[]⟩] 36)).alloc (.cells #[.string ⟨#[]⟩, .string ⟨#[]⟩] 74)).alloc (.cells #[txt a, txt b] 74)) = w4 at X O EV ⊢
    refine (H1.out _ EV).mono ?_
    rintro e w5 ⟨rfl, hE⟩
    have X5 := X.ext hE
    have O5 := O.ext hE
    have E := EV.trans hE
    clear X O EV hE
    obtain ⟨d0, d1, g0, g1⟩ := X5
    obtain ⟨y0, y1, p0, p1⟩ := O5
    have x0 := d0
    have x1 := d1
    have x2 := g0
    have x3 := g1
    have z0 := y0
    have z1 := y1
    have z2 := p0
    have z3 := p1
    go_wp2_with fail
    rw [rounds_succ]
    go_wp2_with fail
    clear d0 d1 g0 g1 y0 y1 p0 p1
    have X6 := (EncAt.mk x0 x1 x2 x3).other (c := w.heap.size + 1 + 1) (o := 0) (v := txt r1) (by omega)
    have O6 := (EncAt.mk z0 z1 z2 z3).set0 r1
    have E6 : Ext w (w5.setCell ⟨w.heap.size + 1 + 1, 0, none⟩ (txt r1)) := E.set (by omega) _
    have hA : Ext (w5.setCell ⟨w.heap.size + 1 + 1, 0, none⟩ (txt r1)) ((w5.setCell ⟨w.heap.size + 1 + 1, 0, none⟩ (txt r1)).alloc (.cells #[txt c, txt d] 74)) := extA
    have X7 := X6.ext hA
    have O7 := O6.ext hA
    have E7 := E6.trans hA
    generalize ((w5.setCell ⟨w.heap.size + 1 + 1, 0, none⟩ (txt r1)).alloc (.cells #[txt c, txt d] 74)) = w6 at X7 O7 E7 ⊢
    clear hA X6 O6 E6 E
    refine (H2.out _ E7).mono ?_
    rintro e w7 ⟨rfl, hE⟩
    have E := E7.trans hE
    obtain ⟨d0, d1, g0, g1⟩ := X7.ext hE
    obtain ⟨y0, y1, p0, p1⟩ := O7.ext hE
    clear X7 O7 E7 hE
    go_wp2_with fail
    refine bodyPost_ret (v := .tuple #[.agg #[txt [], txt []], .int .i64 (s2 : Nat)]) (by rw [results_cell_tmp1 rfl]; go_simp) rfl ?_
    exact ⟨by first | (rw [HR.out]; done) | (rw [HR.out]; rfl), extA⟩
  subst hs
  have HR : Hid (C = ((r1, s1), 0)) := by show _ = _; rw [hC]; exact ends_good rfl rfl
  clear hC
  have X : EncAt (w.heap.size + 1) ((((w.alloc (.cells #[txt a, txt b, txt c, txt d] 75)).alloc (.cells #[.string ⟨#[]⟩, .string ⟨#[]⟩] 36)).alloc (.cells #[.string ⟨#[]⟩, .string ⟨#[]⟩] 74)).alloc (.cells #[txt a, txt b] 74)) [] [] := ⟨by go_simp, by go_simp, by go_simp, by go_simp⟩
  have O : EncAt (w.heap.size + 1 + 1) ((((w.alloc (.cells #[txt a, txt b, txt c, txt d] 75)).alloc (.cells #[.string ⟨#[]⟩, .string ⟨#[]⟩] 36)).alloc (.cells #[.string ⟨#[]⟩, .string ⟨#[]⟩] 74)).alloc (.cells #[txt a, txt b] 74)) [] [] := ⟨by go_simp, by go_simp, by go_simp, by go_simp⟩
  have EV : Ext w ((((w.alloc (.cells #[txt a, txt b, txt c, txt d] 75)).alloc (.cells #[.string ⟨#[]⟩, .string ⟨#[]⟩] 36)).alloc (.cells #[.string ⟨#[]⟩, .string ⟨#[]⟩] 74)).alloc (.cells #[txt a, txt b] 74)) := extA
  go_enter Tryz.func31, Tryz.ntmps31
  go_wp2
  refine wp_loop_rounds 3 ?_
  rw [rounds_succ]
  go_wp2_with fail
  generalize ((((w.alloc (.cells #[txt a, txt b, txt c, txt d] 75)).alloc (.cells #[.string ⟨#[]⟩, .string ⟨#[]⟩] 36)).alloc (.cells #[.string ⟨#[]⟩, .string ⟨#[]⟩] 74)).alloc (.cells #[txt a, txt b] 74)) = w4 at X O EV ⊢
  refine (H1.out _ EV).mono ?_
  rintro e w5 ⟨rfl, hE⟩
  have X5 := X.ext hE
  have O5 := O.ext hE
  have E := EV.trans hE
  clear X O EV hE
  obtain ⟨d0, d1, g0, g1⟩ := X5
  obtain ⟨y0, y1, p0, p1⟩ := O5
  have x0 := d0
  have x1 := d1
  have x2 := g0
  have x3 := g1
  have z0 := y0
  have z1 := y1
  have z2 := p0
  have z3 := p1
  go_wp2_with fail
  rw [rounds_succ]
  go_wp2_with fail
  clear d0 d1 g0 g1 y0 y1 p0 p1
  have X6 := (EncAt.mk x0 x1 x2 x3).other (c := w.heap.size + 1 + 1) (o := 0) (v := txt r1) (by omega)
  have O6 := (EncAt.mk z0 z1 z2 z3).set0 r1
  have E6 : Ext w (w5.setCell ⟨w.heap.size + 1 + 1, 0, none⟩ (txt r1)) := E.set (by omega) _
  have hA : Ext (w5.setCell ⟨w.heap.size + 1 + 1, 0, none⟩ (txt r1)) ((w5.setCell ⟨w.heap.size + 1 + 1, 0, none⟩ (txt r1)).alloc (.cells #[txt c, txt d] 74)) := extA
  have X7 := X6.ext hA
  have O7 := O6.ext hA
  have E7 := E6.trans hA
  generalize ((w5.setCell ⟨w.heap.size + 1 + 1, 0, none⟩ (txt r1)).alloc (.cells #[txt c, txt d] 74)) = w6 at X7 O7 E7 ⊢
  clear hA X6 O6 E6 E
  refine (H2.out _ E7).mono ?_
  rintro e w7 ⟨rfl, hE⟩
  have E := E7.trans hE
  obtain ⟨d0, d1, g0, g1⟩ := X7.ext hE
  obtain ⟨y0, y1, p0, p1⟩ := O7.ext hE
  clear X7 O7 E7 hE
  go_wp2_with fail
  rw [rounds_succ]
  go_wp2_with fail
  refine bodyPost_ret (v := .tuple #[.agg #[txt r1, txt s1], .int .i64 0]) (by rw [results_cell_tmp1 rfl]; go_simp) rfl ?_
  exact ⟨by first | (rw [HR.out]; done) | (rw [HR.out]; rfl), extA⟩
end Go.Proofs.YtbpjbhbbkonjlaaGreatDoor
namespace Go.Proofs.YtbpjbhbbkonjlaaGreatDoor
open Go.RowKit
theorem enters47 : ∀ args w, (callFunc 32 args).run Tryz.prog w = .ok (.enter 32 args) w := enters_of Tryz.func32 (by kernel_rfl) rfl
theorem enters49 : ∀ args w, (callFunc 113 args).run Tryz.prog w = .ok (.enter 113 args) w := enters_of Tryz.func113 (by kernel_rfl) rfl
set_option maxHeartbeats 8000000 in
set_option maxRecDepth 100000 in
theorem eAdd_any (a b : Enc) (w : World) (hG : Glob w) (hl : LenE a) (hm : LenE b) : Calls Tryz.prog 14 #[encV a, encV b] w (EncP (addE a b) w) := by
  have HB := Lib.hid (checked_two a b w hG hl hm)
  have HE := Lib.hid (fun W (h : Ext w W) => eEnds_any 32 a.1 b.1 a.2 b.2 (addS a.1 b.1) (addS a.2 b.2) W enters47
    (fun V g => add_any _ _ V (hG.ext (h.trans g)) hl.1 hm.1) (fun V g => add_any _ _ V (hG.ext (h.trans g)) hl.2 hm.2))
  unfold EncP at HE ⊢
  obtain ⟨C, hC⟩ : ∃ C, C = addE a b := ⟨_, rfl⟩
  rw [← hC]
  have hne0 : (((0 : Nat) : Int) != 0) = false := rfl
  by_cases e0 : bothEE a b = 0
  rotate_left
  · have HR : Hid (C = (([], []), bothEE a b)) := by show _ = _; rw [hC]; unfold addE badEnc; rw [if_pos e0]
    have hne : (((bothEE a b : Nat) : Int) != 0) = true := by rw [bne_iff_ne]; omega
    clear e0 hC hl hm hG HE
    generalize bothEE a b = n at *
    obtain ⟨l, h⟩ := a
    obtain ⟨m, k⟩ := b
    dsimp only [encV] at HB ⊢
    have c0 : ((((w.alloc (.cells #[txt l, txt h] 36)).alloc (.cells #[txt m, txt k] 36)).alloc (.cells #[.string ⟨#[]⟩, .string ⟨#[]⟩] 36)).alloc (.cells #[txt l, txt h, txt m, txt k] 36)).cell? ⟨w.heap.size, 0, none⟩ = some (txt l) := by go_simp
    have c1 : ((((w.alloc (.cells #[txt l, txt h] 36)).alloc (.cells #[txt m, txt k] 36)).alloc (.cells #[.string ⟨#[]⟩, .string ⟨#[]⟩] 36)).alloc (.cells #[txt l, txt h, txt m, txt k] 36)).cell? ⟨w.heap.size, 1, none⟩ = some (txt h) := by go_simp
    have c2 : ((((w.alloc (.cells #[txt l, txt h] 36)).alloc (.cells #[txt m, txt k] 36)).alloc (.cells #[.string ⟨#[]⟩, .string ⟨#[]⟩] 36)).alloc (.cells #[txt l, txt h, txt m, txt k] 36)).cell? ⟨w.heap.size + 1, 0, none⟩ = some (txt m) := by go_simp
    have c3 : ((((w.alloc (.cells #[txt l, txt h] 36)).alloc (.cells #[txt m, txt k] 36)).alloc (.cells #[.string ⟨#[]⟩, .string ⟨#[]⟩] 36)).alloc (.cells #[txt l, txt h, txt m, txt k] 36)).cell? ⟨w.heap.size + 1, 1, none⟩ = some (txt k) := by go_simp
    have X : EncAt (w.heap.size + 1 + 1) ((((w.alloc (.cells #[txt l, txt h] 36)).alloc (.cells #[txt m, txt k] 36)).alloc (.cells #[.string ⟨#[]⟩, .string ⟨#[]⟩] 36)).alloc (.cells #[txt l, txt h, txt m, txt k] 36)) [] [] := ⟨by go_simp, by go_simp, by go_simp, by go_simp⟩
    have hZ : Ext w ((((w.alloc (.cells #[txt l, txt h] 36)).alloc (.cells #[txt m, txt k] 36)).alloc (.cells #[.string ⟨#[]⟩, .string ⟨#[]⟩] 36)).alloc (.cells #[txt l, txt h, txt m, txt k] 36)) := extA
    go_enter Tryz.func14, Tryz.ntmps14
    go_wp2_with (go_at_call 30; (refine (HB.out _ (((w.alloc (.cells #[txt l, txt h] 36)).alloc (.cells #[txt m, txt k] 36)).alloc (.cells #[.string ⟨#[]⟩, .string ⟨#[]⟩] 36)) _ (by simp) rfl extA).mono ?_); rintro e w3 ⟨rfl, hE3⟩; have c0 := hE3.cell c0; have c1 := hE3.cell c1; have c2 := hE3.cell c2; have c3 := hE3.cell c3; have b0 := cell_lt c0; have b1 := cell_lt c2; dsimp only at b0 b1; obtain ⟨d0, d1, g0, g1⟩ := X.ext hE3)
    refine bodyPost_ret (v := .tuple #[.agg #[txt [], txt []], .int .i64 (n : Nat)]) (by rw [results_cell_tmp1 rfl]; go_simp) rfl ?_
    exact ⟨by first | (rw [HR.out]; done) | (rw [HR.out]; rfl), extA⟩
  have HR : Hid (C = endsR (addS a.1 b.1) (addS a.2 b.2)) := by show _ = _; rw [hC]; unfold addE; rw [if_neg (not_not_intro e0)]
  rw [e0] at HB
  clear e0 hl hm hG hC
  generalize endsR (addS a.1 b.1) (addS a.2 b.2) = R at *
  obtain ⟨⟨r1, r2⟩, r3⟩ := R
  obtain ⟨l, h⟩ := a
  obtain ⟨m, k⟩ := b
  dsimp only [encV] at HB HE HR ⊢
  have c0 : ((((w.alloc (.cells #[txt l, txt h] 36)).alloc (.cells #[txt m, txt k] 36)).alloc (.cells #[.string ⟨#[]⟩, .string ⟨#[]⟩] 36)).alloc (.cells #[txt l, txt h, txt m, txt k] 36)).cell? ⟨w.heap.size, 0, none⟩ = some (txt l) := by go_simp
  have c1 : ((((w.alloc (.cells #[txt l, txt h] 36)).alloc (.cells #[txt m, txt k] 36)).alloc (.cells #[.string ⟨#[]⟩, .string ⟨#[]⟩] 36)).alloc (.cells #[txt l, txt h, txt m, txt k] 36)).cell? ⟨w.heap.size, 1, none⟩ = some (txt h) := by go_simp
  have c2 : ((((w.alloc (.cells #[txt l, txt h] 36)).alloc (.cells #[txt m, txt k] 36)).alloc (.cells #[.string ⟨#[]⟩, .string ⟨#[]⟩] 36)).alloc (.cells #[txt l, txt h, txt m, txt k] 36)).cell? ⟨w.heap.size + 1, 0, none⟩ = some (txt m) := by go_simp
  have c3 : ((((w.alloc (.cells #[txt l, txt h] 36)).alloc (.cells #[txt m, txt k] 36)).alloc (.cells #[.string ⟨#[]⟩, .string ⟨#[]⟩] 36)).alloc (.cells #[txt l, txt h, txt m, txt k] 36)).cell? ⟨w.heap.size + 1, 1, none⟩ = some (txt k) := by go_simp
  have X : EncAt (w.heap.size + 1 + 1) ((((w.alloc (.cells #[txt l, txt h] 36)).alloc (.cells #[txt m, txt k] 36)).alloc (.cells #[.string ⟨#[]⟩, .string ⟨#[]⟩] 36)).alloc (.cells #[txt l, txt h, txt m, txt k] 36)) [] [] := ⟨by go_simp, by go_simp, by go_simp, by go_simp⟩
  have hZ : Ext w ((((w.alloc (.cells #[txt l, txt h] 36)).alloc (.cells #[txt m, txt k] 36)).alloc (.cells #[.string ⟨#[]⟩, .string ⟨#[]⟩] 36)).alloc (.cells #[txt l, txt h, txt m, txt k] 36)) := extA
  go_enter Tryz.func14, Tryz.ntmps14
  go_wp2_with (go_at_call 30; (refine (HB.out _ (((w.alloc (.cells #[txt l, txt h] 36)).alloc (.cells #[txt m, txt k] 36)).alloc (.cells #[.string ⟨#[]⟩, .string ⟨#[]⟩] 36)) _ (by simp) rfl extA).mono ?_); rintro e w3 ⟨rfl, hE3⟩; have c0 := hE3.cell c0; have c1 := hE3.cell c1; have c2 := hE3.cell c2; have c3 := hE3.cell c3; have b0 := cell_lt c0; have b1 := cell_lt c2; dsimp only at b0 b1; obtain ⟨d0, d1, g0, g1⟩ := X.ext hE3; have E3 := hZ.trans hE3; have X3 := X.ext hE3)
  go_at_call 31
  refine (HE.out _ E3).mono ?_
  rintro e w4 ⟨rfl, hE4⟩
  obtain ⟨d0, d1, g0, g1⟩ := X3.ext hE4
  go_wp2_with fail
  refine bodyPost_ret (v := .tuple #[.agg #[txt r1, txt r2], .int .i64 (r3 : Nat)]) (by rw [results_cell_tmp1 rfl]; go_simp) rfl ?_
  exact ⟨by first | (rw [HR.out]; done) | (rw [HR.out]; rfl), extA⟩
end Go.Proofs.YtbpjbhbbkonjlaaGreatDoor
namespace Go.Proofs.YtbpjbhbbkonjlaaGreatDoor
open Go.Lib (decDigits)
def digL (s : List UInt8) : List Nat := s.reverse.map fun c => c.toNat - 48
theorem digL_len (s : List UInt8) : (digL s).length = s.length := by simp [digL]
theorem digL_snoc (s : List UInt8) (c : UInt8) : digL (s ++ [c]) = (c.toNat - 48) :: digL s := by simp [digL]
theorem digL_val (s : List UInt8) : valB 10 (digL s) = decV s := by
  induction s using snocRec with
  | nil => rfl
  | snoc s c ih => rw [digL_snoc, decV_snoc]; show (c.toNat - 48) + 10 * valB 10 (digL s) = _; rw [ih, Nat.add_comm]
theorem digL_ok {s : List UInt8} (h : DigitL s) : OkB 10 (digL s) := fun x hx => by
  obtain ⟨c, hc, rfl⟩ := List.mem_map.1 hx
  have := h c (List.mem_reverse.1 hc)
  omega
theorem digL_get (s : List UInt8) {k : Nat} (h : k < s.length) : (digL s).getD k 0 = (s.getD (s.length - 1 - k) 0).toNat - 48 := by
  unfold digL
  simp only [List.getD_eq_getElem?_getD, List.getElem?_map]
  rw [List.getElem?_reverse h, List.getElem?_eq_getElem (show s.length - 1 - k < s.length by omega)]
  rfl
structure MulK (a b : List Nat) (i k : Nat) (o : List Nat) : Prop where
  len : o.length = a.length + b.length
  bd : ∀ j, o.getD j 0 ≤ 81 * i + 81
  bz : ∀ j, i + k ≤ j → o.getD j 0 ≤ 81 * i
  v : valB 10 o = valB 10 (a.take i) * valB 10 b + 10 ^ i * (a.getD i 0 * valB 10 (b.take k))
theorem MulK.start (a b : List Nat) : MulK a b 0 0 (List.replicate (a.length + b.length) 0) := by
  have hz : ∀ j, (List.replicate (a.length + b.length) 0).getD j 0 = 0 := fun j => by
    rw [List.getD_eq_getElem?_getD, List.getElem?_replicate]; split <;> rfl
  exact ⟨List.length_replicate, fun j => by rw [hz]; omega, fun j _ => by rw [hz]; omega, by rw [valB_zeros]; simp [valB]⟩
theorem MulK.next {a b : List Nat} (ha : OkB 10 a) (hb : OkB 10 b) {i k : Nat} {o : List Nat} (h : MulK a b i k o) (hi : i < a.length) (hk : k < b.length) :
    MulK a b i (k + 1) (o.set (i + k) (o.getD (i + k) 0 + a.getD i 0 * b.getD k 0)) := by
  have h1 := okB_getD ha (by omega) i
  have h2 := okB_getD hb (by omega) k
  have hxy : a.getD i 0 * b.getD k 0 ≤ 9 * 9 := Nat.mul_le_mul (by omega) (by omega)
  have hlen := h.len
  have hz := h.bz (i + k) (Nat.le_refl _)
  refine ⟨by rw [List.length_set]; exact hlen, fun j => ?_, fun j hj => ?_, ?_⟩
  · rw [getD_set_nat _ _ _ _ (by omega)]
    split
    · omega
    · exact h.bd j
  · rw [getD_set_nat _ _ _ _ (by omega), if_neg (by omega)]
    exact h.bz j (by omega)
  · have hs := valB_set 10 o (j := i + k) (by omega) (o.getD (i + k) 0 + a.getD i 0 * b.getD k 0)
    have hv := h.v
    rw [valB_take_succ 10 b k]
    generalize valB 10 (o.set (i + k) (o.getD (i + k) 0 + a.getD i 0 * b.getD k 0)) = vo at *
    generalize valB 10 o = v0 at *
    generalize o.getD (i + k) 0 = oj at *
    generalize a.getD i 0 = x at *
    generalize b.getD k 0 = y at *
    generalize valB 10 (b.take k) = vb at *
    generalize valB 10 (a.take i) * valB 10 b = V at *
    have hq : 10 ^ (i + k) = 10 ^ i * 10 ^ k := Nat.pow_add ..
    have e3 : 10 ^ i * (x * (vb + 10 ^ k * y)) = 10 ^ i * (x * vb) + 10 ^ (i + k) * (x * y) := by
      rw [hq, Nat.mul_add x, Nat.mul_add (10 ^ i), Nat.mul_assoc (10 ^ i) (10 ^ k)]
      congr 2
      rw [Nat.mul_left_comm]
    rw [e3]
    rw [Nat.mul_add] at hs
    omega
theorem MulK.outer {a b : List Nat} {i : Nat} {o : List Nat} (h : MulK a b i b.length o) : MulK a b (i + 1) 0 o := by
  refine ⟨h.len, fun j => by have := h.bd j; omega, fun j _ => by have := h.bd j; omega, ?_⟩
  rw [h.v, List.take_length, valB_take_succ, Nat.add_mul, Nat.mul_assoc]
  simp [valB]
theorem MulK.done {a b : List Nat} {o : List Nat} (h : MulK a b a.length 0 o) : o.length = a.length + b.length ∧ (∀ j, o.getD j 0 ≤ 81 * a.length + 81) ∧ valB 10 o = valB 10 a * valB 10 b := by
  refine ⟨h.len, h.bd, ?_⟩
  rw [h.v, List.take_length]
  simp [valB]
structure CarI (N P M j : Nat) (o : List Nat) : Prop where
  len : o.length = N
  ok : ∀ i, i < j → o.getD i 0 < 10
  bd : o.getD j 0 ≤ 2 * M
  br : ∀ i, j < i → o.getD i 0 ≤ M
  v : valB 10 o = P
theorem CarI.start {o : List Nat} {M : Nat} (h : ∀ j, o.getD j 0 ≤ M) : CarI o.length (valB 10 o) M 0 o :=
  ⟨rfl, fun i hi => by omega, by have := h 0; omega, fun i _ => h i, rfl⟩
theorem CarI.next {N P M j : Nat} {o : List Nat} (h : CarI N P M j o) (hj : j + 1 < N) :
    CarI N P M (j + 1) ((o.set (j + 1) (o.getD (j + 1) 0 + o.getD j 0 / 10)).set j (o.getD j 0 % 10)) := by
  have hlen := h.len
  have h1 := h.bd
  have h2 := h.br (j + 1) (by omega)
  have hl1 : j + 1 < o.length := by omega
  have hl2 : j < (o.set (j + 1) (o.getD (j + 1) 0 + o.getD j 0 / 10)).length := by rw [List.length_set]; omega
  have hg : ∀ i, ((o.set (j + 1) (o.getD (j + 1) 0 + o.getD j 0 / 10)).set j (o.getD j 0 % 10)).getD i 0 =
      if j = i then o.getD j 0 % 10 else if j + 1 = i then o.getD (j + 1) 0 + o.getD j 0 / 10 else o.getD i 0 := fun i => by
    rw [getD_set_nat _ _ _ _ hl2, getD_set_nat _ _ _ _ hl1]
  refine ⟨by rw [List.length_set, List.length_set]; exact hlen, fun i hi => ?_, ?_, fun i hi => ?_, ?_⟩
  · rw [hg]
    by_cases e : j = i
    · rw [if_pos e]; omega
    · rw [if_neg e, if_neg (by omega)]; exact h.ok i (by omega)
  · rw [hg, if_neg (by omega), if_pos rfl]; omega
  · rw [hg, if_neg (by omega), if_neg (by omega)]; exact h.br i (by omega)
  · have s1 := valB_set 10 o hl1 (o.getD (j + 1) 0 + o.getD j 0 / 10)
    have s2 := valB_set 10 _ hl2 (o.getD j 0 % 10)
    rw [getD_set_nat _ _ _ _ hl1, if_neg (by omega)] at s2
    have hv := h.v
    generalize valB 10 ((o.set (j + 1) (o.getD (j + 1) 0 + o.getD j 0 / 10)).set j (o.getD j 0 % 10)) = v2 at *
    generalize valB 10 (o.set (j + 1) (o.getD (j + 1) 0 + o.getD j 0 / 10)) = v1 at *
    generalize o.getD (j + 1) 0 = y at *
    generalize o.getD j 0 = x at *
    have e : 10 ^ j * (x % 10 + 10 * (x / 10)) = 10 ^ j * x := by rw [Nat.mod_add_div]
    rw [Nat.mul_add] at s1 e
    rw [Nat.pow_succ] at s1
    rw [← Nat.mul_assoc] at e
    omega
theorem valB_last {o : List Nat} {n : Nat} (h : o.length = n + 1) : valB 10 o = valB 10 (o.take n) + 10 ^ n * o.getD n 0 := by
  rw [← valB_take_succ, ← h, List.take_length]
theorem CarI.done {N P M : Nat} {o : List Nat} (h : CarI (N + 1) P M N o) (hP : P < 10 ^ (N + 1)) : OkB 10 o := fun x hx => by
  obtain ⟨i, hi, rfl⟩ := List.getElem_of_mem hx
  have e : o.getD i 0 = o[i] := by simp [List.getD_eq_getElem?_getD, hi]
  rw [← e]
  have hlen := h.len
  by_cases k : i < N
  · exact h.ok i k
  · have hiN : i = N := by omega
    subst hiN
    have h2 := valB_last hlen
    rw [h.v] at h2
    rw [Nat.pow_succ] at hP
    have h3 : 10 ^ i * o.getD i 0 < 10 ^ i * 10 := by omega
    exact Nat.lt_of_mul_lt_mul_left h3
def prodV (l : List (List UInt8)) : Nat := l.foldl (fun v s => v * decV s) 1
theorem prodV_take {l : List (List UInt8)} {n : Nat} (h : n < l.length) : prodV (l.take (n + 1)) = prodV (l.take n) * decV (l.getD n []) := by
  have e : l.take (n + 1) = l.take n ++ [l.getD n []] := by
    rw [List.take_add_one, List.getD_eq_getElem?_getD, List.getElem?_eq_getElem h]; rfl
  rw [e]
  unfold prodV
  rw [List.foldl_append]
  rfl
def digT (t : List Nat) : List UInt8 := t.reverse.map fun d => UInt8.ofNat (48 + d)
theorem digT_digL {t : List Nat} (h : OkB 10 t) : digL (digT t) = t := by
  unfold digL digT
  rw [← List.map_reverse, List.reverse_reverse, List.map_map]
  conv => rhs; rw [← List.map_id t]
  refine List.map_congr_left fun x hx => ?_
  have := h x hx
  show (UInt8.ofNat (48 + x)).toNat - 48 = x
  rw [digit_toNat this]; omega
theorem digT_dec {t : List Nat} (h : OkB 10 t) (h1 : 1 ≤ t.length) (h2 : t.length = 1 ∨ t.getD (t.length - 1) 0 ≠ 0) : digT t = decDigits (valB 10 t) := by
  have hv : decV (digT t) = valB 10 t := by rw [← digL_val, digT_digL h]
  rw [← hv]
  symm
  refine canon_back ⟨fun c hc => ?_, ?_, ?_⟩
  · obtain ⟨d, hd, rfl⟩ := List.mem_map.1 hc
    have := h d (List.mem_reverse.1 hd)
    rw [digit_toNat this]; omega
  · intro e
    have := congrArg List.length e
    simp [digT] at this
    rw [this] at h1; simp at h1
  · by_cases h3 : t.getD (t.length - 1) 0 = 0
    · right
      have h4 : t.length = 1 := h2.resolve_right (not_not_intro h3)
      match t, h4 with
      | [x], _ =>
        have : x = 0 := by simpa using h3
        subst this; rfl
    · left
      have h5 : (digT t).head? = some (UInt8.ofNat (48 + t.getD (t.length - 1) 0)) := by
        unfold digT
        rw [List.head?_map, List.head?_reverse, List.getLast?_eq_getElem?, List.getD_eq_getElem?_getD, List.getElem?_eq_getElem (show t.length - 1 < t.length by omega)]
        rfl
      rw [h5]
      intro e
      have e2 := congrArg (Option.map UInt8.toNat) e
      simp only [Option.map_some, Option.some.injEq] at e2
      have h6 := okB_getD h (by omega) (t.length - 1)
      rw [digit_toNat h6] at e2
      have : (48 : UInt8).toNat = 48 := rfl
      omega
theorem digT_len (t : List Nat) : (digT t).length = t.length := by simp [digT]
theorem digT_take {t : List Nat} {k : Nat} (h : k < t.length) : (digT t).take (k + 1) = (digT t).take k ++ [UInt8.ofNat (48 + t.getD (t.length - 1 - k) 0)] := by
  unfold digT
  rw [List.take_add_one, List.getElem?_map, List.getElem?_reverse h, List.getElem?_eq_getElem (show t.length - 1 - k < t.length by omega),
    List.getD_eq_getElem?_getD, List.getElem?_eq_getElem (show t.length - 1 - k < t.length by omega)]
  rfl
end Go.Proofs.YtbpjbhbbkonjlaaGreatDoor
namespace Go.Proofs.YtbpjbhbbkonjlaaGreatDoor
open Go.RowKit
theorem byteCells_one (c : UInt8) : Lib.byteCells [c] = [.int .u8 (c.toNat : Int)] := rfl
set_option maxHeartbeats 2000000 in
set_option maxRecDepth 100000 in
theorem WriteByte_any (b n3 : Nat) (l : Txt) (c : UInt8) (w : World) (h : BldW b n3 l w) (hb : b < n3) (hn : n3 ≤ w.heap.size) (hlen : l.length ≤ 100000) :
    Calls Tryz.prog 200 #[.pointer (some ⟨b, 0, none⟩), .int .u8 (c.toNat : Int)] w fun e w' => e = .returned .nilIface ∧ BldW b n3 (l ++ [c]) w' ∧ Below b w w' := by
  obtain ⟨i0, hi, hz0, hz1, hz2⟩ := info_parts Tryz.Builder_Extra_169.infoByte
  obtain ⟨p, v, h1, h2, h3⟩ := h
  have hbw : b < w.heap.size := by omega
  have hvb : v.ownBlock ≠ some b := fun e => by have := (row_ge h3 e).1; omega
  have hCC : Hid (Calls Tryz.prog 169 #[.pointer (some ⟨b, 0, none⟩)] w fun e w' => e = .returned (.tuple #[]) ∧ w'.heap[b]? = some (.cells #[.pointer (some ⟨b, 0, none⟩), v] 188 (0, 0)) ∧ Chg (fun k => k = b) w w' ∧ Below b w w') := by
    rcases h2 with rfl | rfl
    · refine (copyCheck_fresh b w (by simp [World.cell?, h1]) (by simp [World.shape?, h1]) (by simp [World.frozen?, h1])).mono ?_
      rintro e w' ⟨rfl, rfl⟩
      refine ⟨rfl, ?_, Chg.setCell (B := fun k => k = b) ⟨b, 0, none⟩ _ rfl, (Below.refl b w).setCell (p := ⟨b, 0, none⟩) (Nat.le_refl _) _⟩
      simp only [World.setCell, Array.getElem?_modify, h1]
      simp
    · refine (copyCheck_used b w (by simp [World.cell?, h1])).mono ?_
      rintro e w' ⟨rfl, rfl⟩
      exact ⟨rfl, h1, Chg.refl _ _, Below.refl _ _⟩
  have HR := Lib.hid h3
  have HV := Lib.hid hvb
  clear h1 h2 h3 hvb
  go_enter Tryz.func200, Tryz.ntmps200
  go_wp2_with (go_at_call 169; refine hCC.out.mono ?_)
  rintro e w1 ⟨rfl, k1, k2, k3⟩
  have c0 : w1.cell? ⟨b, 0, none⟩ = some (.pointer (some ⟨b, 0, none⟩)) := by rw [Lib.cell_of_heap k1]; rfl
  have c1 : w1.cell? ⟨b, 1, none⟩ = some v := by rw [Lib.cell_of_heap k1]; rfl
  have hz := k2.1
  have hlt0 : b < w1.heap.size := by omega
  have hA : Ext w1 (w1.alloc (.cells #[.int .u8 (c.toNat : Int)] 5)) := extA
  have hown : (w1.alloc (.cells #[.int .u8 (c.toNat : Int)] 5)).ownsRow n3 5 1 v l.length (Lib.byteCells l) := row_same HR.out (fun g hg => by
    obtain ⟨_, cur, hh⟩ := row_ge HR.out hg
    have hg2 := (Array.getElem?_eq_some_iff.1 hh).1
    exact (hA.block g (by omega)).trans (k2.2 g hg2 (fun e => HV.out (e ▸ hg))))
  have hnew : (w1.alloc (.cells #[.int .u8 (c.toNat : Int)] 5)).cell? ⟨w1.heap.size, 0, none⟩ = some (.int .u8 (c.toNat : Int)) := by go_simp
  have e1 : (w1.alloc (.cells #[.int .u8 (c.toNat : Int)] 5)).heap[b]? = some (.cells #[.pointer (some ⟨b, 0, none⟩), v] 188 (0, 0)) := (hA.block b hlt0).trans k1
  have hs2 : w1.heap.size < (w1.alloc (.cells #[.int .u8 (c.toNat : Int)] 5)).heap.size := by show _ < (w1.heap.push _).size; rw [Array.size_push]; omega
  have HB1 : Hid (Below b w (w1.alloc (.cells #[.int .u8 (c.toNat : Int)] 5))) := k3.trans (hA.mono (by omega))
  have e0 := e1
  clear k1 k2 k3 HR
  go_wp2_with (at_builtin; refine Go.wpList_append_own _ rfl _ _ 186 rfl n3 5 i0 (.int .u8 0) 1 1 Tryz.underlying186 hi hz0 hz1 hz2 rfl (by decide) _ _ _ rfl hown ⟨w1.heap.size, 0, none⟩ 1 1 [.int .u8 (c.toNat : Int)] rfl rfl ?c1 ?c2 ?c3 ?c4 ?c5 ?_)
  case c1 =>
    intro j u hj
    match j, hj with
    | 0, hj => simp only [List.getElem?_cons_zero, Option.some.injEq] at hj; subst hj; exact hnew
  case c2 => intro u hu; rw [List.mem_singleton.1 hu]; rfl
  case c3 => unfold maxLen; omega
  case c4 => omega
  case c5 => omega
  intro v' w2 hown' hgrow _
  generalize w1.alloc (.cells #[.int .u8 (c.toNat : Int)] 5) = w1' at *
  have hlt : b < w1'.heap.size := by omega
  have hb2 : w2.heap[b]? = some (.cells #[.pointer (some ⟨b, 0, none⟩), v] 188 (0, 0)) := by
    rw [hgrow.block b hlt (fun e => HV.out e.symm)]
    exact e0
  have d0 : w2.cell? ⟨b, 0, none⟩ = some (.pointer (some ⟨b, 0, none⟩)) := by rw [Lib.cell_of_heap hb2]; rfl
  have d1 : w2.cell? ⟨b, 1, none⟩ = some v := by rw [Lib.cell_of_heap hb2]; rfl
  have f1 : w2.frozen? ⟨b, 1, none⟩ = false := Lib.frozen_of_heap hb2 1
  obtain ⟨ao, n', cap, rfl⟩ : ∃ ao n' cap, v' = .slice ao n' cap := by
    rcases hown'.2 with ⟨hv, _⟩ | ⟨g, cap, cur, hv, _⟩
    · exact ⟨_, _, _, hv⟩
    · exact ⟨_, _, _, hv⟩
  have hW : BldW b n3 (l ++ [c]) (w2.setCell ⟨b, 1, none⟩ (.slice ao n' cap)) := by
    refine ⟨.pointer (some ⟨b, 0, none⟩), .slice ao n' cap, ?_, .inr rfl, ?_⟩
    · show (w2.setCell ⟨b, 1, none⟩ (.slice ao n' cap)).heap[b]? = some (.cells #[.pointer (some ⟨b, 0, none⟩), .slice ao n' cap] _ (0, 0))
      simp only [World.setCell, Array.getElem?_modify, hb2]
      simp
    · have h9 : (w2.setCell ⟨b, 1, none⟩ (.slice ao n' cap)).ownsRow n3 5 1 (.slice ao n' cap) (l.length + 1) (Lib.byteCells l ++ [.int .u8 (c.toNat : Int)]) :=
        row_same hown' (fun g hg => Below.heap_setCell _ ⟨b, 1, none⟩ _ g (fun e => by have := (row_ge hown' hg).1; dsimp only at e; omega))
      rw [← byteCells_one, ← byteCells_app] at h9
      rw [List.length_append]
      exact h9
  have hB : Below b w (w2.setCell ⟨b, 1, none⟩ (.slice ao n' cap)) :=
    (HB1.out.grown hgrow (by omega) (fun k hk => by have := (row_ge hown hk).1; omega)).setCell (p := ⟨b, 1, none⟩) (Nat.le_refl _) _
  have HF := Lib.hid (And.intro hW hB)
  clear hW hB hown hown' hgrow HB1
  go_wp2
  go_ret
  exact ⟨rfl, HF.out⟩
end Go.Proofs.YtbpjbhbbkonjlaaGreatDoor
