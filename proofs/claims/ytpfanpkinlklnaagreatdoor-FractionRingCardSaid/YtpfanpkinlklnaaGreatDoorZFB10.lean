/- Steps of the proof: FCpt1, FCpt2. No conditions. -/
import Derived.Test.YtpfanpkinlklnaaGreatDoorZFB1
import Derived.Test.YtpfanpkinlklnaaGreatDoorZFB2
import Derived.Test.YtpfanpkinlklnaaGreatDoorZFB3
import Derived.Test.YtpfanpkinlklnaaGreatDoorZFB4
import Derived.Test.YtpfanpkinlklnaaGreatDoorZFB5
import Derived.Test.YtpfanpkinlklnaaGreatDoorZFB6
import Derived.Test.YtpfanpkinlklnaaGreatDoorZFB7
import Derived.Test.YtpfanpkinlklnaaGreatDoorZFB8
import Derived.Test.YtpfanpkinlklnaaGreatDoorZFB9
/- A computation of two texts: operation 1. (Printed by gencomp.py.) -/
namespace Go.Proofs.YtpfanpkinlklnaaGreatDoor
open Go.RowKit

set_option maxHeartbeats 16000000 in
set_option maxRecDepth 100000 in
theorem computed1_any (a b : Txt) (w : World) (hG : Glob w) (ha : a.length ≤ 400) (hb : b.length ≤ 400) :
    Calls Tryz.prog 69 #[.int .i64 1, txt a, txt b] w (ResPost (subS a b) w) := by
  have HG := Lib.hid hG
  have HPA := Lib.hid (fun W (hW : Ext w W) => parsed_any a W (hG.ext hW) ha)
  have HPB := Lib.hid (fun W (hW : Ext w W) => parsed_any b W (hG.ext hW) hb)
  have HRES := Lib.hid (@sub_res a b)
  clear hG
  go_enter Tryz.func69, Tryz.ntmps69
  go_wp2_with fail
  refine (HPA.out _ (Ext.refl _)).mono ?_
  rintro e w1 ⟨v1, rfl, ⟨s1, ta, tn, tc, ba, bn, bc, rfl⟩, hn1, hE⟩
  have HN1 := Lib.hid hn1
  clear hn1 HPA
  by_cases ea : fracE a = 0
  rotate_left
  · have HR := Lib.hid (HRES.out.1 ea)
    have hne : (((fracE a : Nat) : Int) != 0) = true := by rw [bne_iff_ne]; omega
    clear HN1 HPB HRES
    generalize fracE a = n at *
    go_wp2_with fail
    go_ret2
    exact ⟨by rw [HR.out]; rfl, (by repeat (first | with_reducible exact Ext.refl _ | with_reducible assumption | with_reducible apply Ext.drewN | with_reducible apply Ext.drew | with_reducible apply Ext.alloc | ((with_reducible refine Ext.set ?_ ?_ _); rotate_left; first | omega | (simp; omega)) | (with_reducible refine Ext.trans ?_ (by with_reducible assumption))))⟩
  have HNA := Lib.hid (HN1.out ea)
  rw [ea]
  have HEA := Lib.hid ea
  clear ea HN1
  have EV : Ext w1 (w1.alloc (.cells #[.bool s1, .slice ta tn tc, .slice ba bn bc] 72)) := (by repeat (first | with_reducible exact Ext.refl _ | with_reducible assumption | with_reducible apply Ext.drewN | with_reducible apply Ext.drew | with_reducible apply Ext.alloc | ((with_reducible refine Ext.set ?_ ?_ _); rotate_left; first | omega | (simp; omega)) | (with_reducible refine Ext.trans ?_ (by with_reducible assumption))))
  have X : Num3 w1.heap.size (w1.alloc (.cells #[.bool s1, .slice ta tn tc, .slice ba bn bc] 72)) (.bool s1) (.slice ta tn tc) (.slice ba bn bc) := ⟨by go_simp, by go_simp, by go_simp, by go_simp, by go_simp, by go_simp⟩
  have E := hE.trans EV
  replace HNA := Lib.hid (HNA.out.ext EV)
  clear EV hE
  go_wp2_with fail
  obtain ⟨xb, hxb⟩ : ∃ xb, xb = w1.heap.size := ⟨_, rfl⟩
  rw [← hxb] at X ⊢
  clear hxb
  generalize (w1.alloc (.cells #[.bool s1, .slice ta tn tc, .slice ba bn bc] 72)) = W1 at X E HNA ⊢
  refine (HPB.out _ E).mono ?_
  rintro e w3 ⟨v2, rfl, ⟨s2, ua, un, uc, va, vn, vc, rfl⟩, hn2, hE⟩
  replace X := X.ext hE
  replace E := E.trans hE
  replace HNA := Lib.hid (HNA.out.ext hE)
  have HN2 := Lib.hid hn2
  clear hn2 HPB hE
  by_cases eb : fracE b = 0
  rotate_left
  · have HR := Lib.hid (HRES.out.2.1 HEA.out eb)
    have hne : (((fracE b : Nat) : Int) != 0) = true := by rw [bne_iff_ne]; omega
    clear HN2 HRES HEA
    generalize fracE b = n at *
    go_wp2_with fail
    go_ret2
    exact ⟨by rw [HR.out]; rfl, (by repeat (first | with_reducible exact Ext.refl _ | with_reducible assumption | with_reducible apply Ext.drewN | with_reducible apply Ext.drew | with_reducible apply Ext.alloc | ((with_reducible refine Ext.set ?_ ?_ _); rotate_left; first | omega | (simp; omega)) | (with_reducible refine Ext.trans ?_ (by with_reducible assumption))))⟩
  have HNB := Lib.hid (HN2.out eb)
  rw [eb]
  have HEB := Lib.hid eb
  clear eb HN2
  have EV : Ext w3 (w3.alloc (.cells #[.bool s2, .slice ua un uc, .slice va vn vc] 72)) := (by repeat (first | with_reducible exact Ext.refl _ | with_reducible assumption | with_reducible apply Ext.drewN | with_reducible apply Ext.drew | with_reducible apply Ext.alloc | ((with_reducible refine Ext.set ?_ ?_ _); rotate_left; first | omega | (simp; omega)) | (with_reducible refine Ext.trans ?_ (by with_reducible assumption))))
  have Y : Num3 w3.heap.size (w3.alloc (.cells #[.bool s2, .slice ua un uc, .slice va vn vc] 72)) (.bool s2) (.slice ua un uc) (.slice va vn vc) := ⟨by go_simp, by go_simp, by go_simp, by go_simp, by go_simp, by go_simp⟩
  replace X := X.ext EV
  replace E := E.trans EV
  replace HNA := Lib.hid (HNA.out.ext EV)
  replace HNB := Lib.hid (HNB.out.ext EV)
  clear EV
  go_wp2_with fail
  obtain ⟨yb, hyb⟩ : ∃ yb, yb = w3.heap.size := ⟨_, rfl⟩
  rw [← hyb] at Y ⊢
  clear hyb
  generalize (w3.alloc (.cells #[.bool s2, .slice ua un uc, .slice va vn vc] 72)) = W3 at X Y E HNA HNB ⊢
  have hix := op_index1
  have hfi := op_field
  have hxa := (numOf_len HEA.out).1
  have hyb := (numOf_len HEB.out).1
  go_cut [11, 9] (fun n ev wx => ∃ nb z0 z1 zn zc z2 zm zd, n = .pointer (some ⟨nb, 0, none⟩) ∧ ev = .int .i64 0 ∧ Hid (Num3 nb wx (.bool z0) (.slice z1 zn zc) (.slice z2 zm zd)) ∧ Hid (NumV wx (.agg #[.bool z0, .slice z1 zn zc, .slice z2 zm zd]) (sumN (numOf a) (negN (numOf b)))) ∧ Ext w wx)
  case first =>
    have hdr : Ext W3 W3.drew := (by repeat (first | with_reducible exact Ext.refl _ | with_reducible assumption | with_reducible apply Ext.drewN | with_reducible apply Ext.drew | with_reducible apply Ext.alloc | ((with_reducible refine Ext.set ?_ ?_ _); rotate_left; first | omega | (simp; omega)) | (with_reducible refine Ext.trans ?_ (by with_reducible assumption))))
    replace X := X.ext hdr
    replace Y := Y.ext hdr
    replace E := E.trans hdr
    replace HNA := Lib.hid (HNA.out.ext hdr)
    replace HNB := Lib.hid (HNB.out.ext hdr)
    have hS : W3.drew.cell? ⟨xb, 0, none⟩ = some (.bool s1) ∧ W3.drew.cell? ⟨xb, 1, none⟩ = some (.slice ta tn tc) ∧ W3.drew.cell? ⟨xb, 2, none⟩ = some (.slice ba bn bc) ∧ W3.drew.cell? ⟨yb, 0, none⟩ = some (.bool s2) ∧ W3.drew.cell? ⟨yb, 1, none⟩ = some (.slice ua un uc) ∧ W3.drew.cell? ⟨yb, 2, none⟩ = some (.slice va vn vc) := ⟨X.c0, X.c1, X.c2, Y.c0, Y.c1, Y.c2⟩
    refine wp_region_heldE 11 (fun w' => w'.cell? ⟨xb, 0, none⟩ = some (.bool s1) ∧ w'.cell? ⟨xb, 1, none⟩ = some (.slice ta tn tc) ∧ w'.cell? ⟨xb, 2, none⟩ = some (.slice ba bn bc) ∧ w'.cell? ⟨yb, 0, none⟩ = some (.bool s2) ∧ w'.cell? ⟨yb, 1, none⟩ = some (.slice ua un uc) ∧ w'.cell? ⟨yb, 2, none⟩ = some (.slice va vn vc)) (by kernel_rfl) ?_
    clear hdr X Y
    generalize W3.drew = W4 at E HNA HNB hS ⊢
    ((refine wpAnyE_take (i := 1) (oi := ?_) (v := ?_) ?_ (by kernel_rfl) ?_ ?_ (by assumption) ?_; rotate_left 2; (focus ((simp only [List.getElem?_toArray, List.getElem?_cons_succ, List.getElem?_cons_zero]; exact rfl))); (focus (exact fun _ _ _ h => h)); (focus (refine Or.inl ⟨by rfl, ?_⟩; intro w hSw; (try dsimp only at hSw); (first | (go_simp; done) | (go_simp; with_reducible rfl)))); (try simp only [Act.put, List.setIfInBounds_toArray, List.set_cons_zero, List.set_cons_succ])); (refine wpAnyE_take (i := 4) (oi := ?_) (v := ?_) ?_ (by kernel_rfl) ?_ ?_ (by assumption) ?_; rotate_left 2; (focus ((simp only [List.getElem?_toArray, List.getElem?_cons_succ, List.getElem?_cons_zero]; exact rfl))); (focus (exact fun _ _ _ h => h)); (focus (refine Or.inl ⟨by rfl, ?_⟩; intro w hSw; (try dsimp only at hSw); (first | (go_simp; done) | (go_simp; with_reducible rfl)))); (try simp only [Act.put, List.setIfInBounds_toArray, List.set_cons_zero, List.set_cons_succ])); (refine wpAnyE_take (i := 5) (oi := ?_) (v := ?_) ?_ (by kernel_rfl) ?_ ?_ (by assumption) ?_; rotate_left 2; (focus ((simp only [List.getElem?_toArray, List.getElem?_cons_succ, List.getElem?_cons_zero]; exact rfl))); (focus (exact fun _ _ _ h => h)); (focus (refine Or.inl ⟨by rfl, ?_⟩; intro w hSw; (try dsimp only at hSw); (first | (go_simp; done) | (go_simp; with_reducible rfl)))); (try simp only [Act.put, List.setIfInBounds_toArray, List.set_cons_zero, List.set_cons_succ])))
    refine wpAnyE_two (i := 0) (j := 10) (o := ?_) (p := ?_) ?_ ?_ (by kernel_rfl) (fun K hK => ?_) (fun K hK => ?_)
    rotate_left 2
    · simp only [List.getElem?_toArray, List.getElem?_cons_zero]; exact rfl
    · simp only [List.getElem?_toArray, List.getElem?_cons_succ, List.getElem?_cons_zero]; exact rfl
    · go_simp
      go_at_call 107
      refine (operations_any _).mono ?_
      rintro e w5 ⟨rfl, hE⟩
      go_wp2_with fail
      have hS5 : w5.cell? ⟨xb, 0, none⟩ = some (.bool s1) ∧ w5.cell? ⟨xb, 1, none⟩ = some (.slice ta tn tc) ∧ w5.cell? ⟨xb, 2, none⟩ = some (.slice ba bn bc) ∧ w5.cell? ⟨yb, 0, none⟩ = some (.bool s2) ∧ w5.cell? ⟨yb, 1, none⟩ = some (.slice ua un uc) ∧ w5.cell? ⟨yb, 2, none⟩ = some (.slice va vn vc) := ⟨hE.cell hS.1, hE.cell hS.2.1, hE.cell hS.2.2.1, hE.cell hS.2.2.2.1, hE.cell hS.2.2.2.2.1, hE.cell hS.2.2.2.2.2⟩
      refine hK.out _ _ hS5 (fun hHeld => ?_)
      clear hK K hHeld
      (try simp only [Act.put, List.setIfInBounds_toArray, List.set_cons_zero, List.set_cons_succ])
      replace E := E.trans hE
      replace HNA := Lib.hid (HNA.out.ext hE)
      replace HNB := Lib.hid (HNB.out.ext hE)
      clear hE hS
      ((refine wpAnyE_take (i := 2) (oi := ?_) (v := ?_) ?_ (by kernel_rfl) ?_ ?_ (by assumption) ?_; rotate_left 2; (focus ((simp only [List.getElem?_toArray, List.getElem?_cons_succ, List.getElem?_cons_zero]; exact rfl))); (focus (exact fun _ _ _ h => h)); (focus (refine Or.inl ⟨by rfl, ?_⟩; intro w hSw; (try dsimp only at hSw); (first | (go_simp; done) | (go_simp; with_reducible rfl)))); (try simp only [Act.put, List.setIfInBounds_toArray, List.set_cons_zero, List.set_cons_succ])); (refine wpAnyE_take (i := 3) (oi := ?_) (v := ?_) ?_ (by kernel_rfl) ?_ ?_ (by assumption) ?_; rotate_left 2; (focus ((simp only [List.getElem?_toArray, List.getElem?_cons_succ, List.getElem?_cons_zero]; exact rfl))); (focus (exact fun _ _ _ h => h)); (focus (refine Or.inl ⟨by rfl, ?_⟩; intro w hSw; (try dsimp only at hSw); (first | (go_simp; done) | (go_simp; with_reducible rfl)))); (try simp only [Act.put, List.setIfInBounds_toArray, List.set_cons_zero, List.set_cons_succ])))
      refine wpAnyE_two (i := 6) (j := 10) (o := ?_) (p := ?_) ?_ ?_ (by kernel_rfl) (fun K hK => ?_) (fun K hK => ?_)
      rotate_left 2
      · simp only [List.getElem?_toArray, List.getElem?_cons_succ, List.getElem?_cons_zero]; exact rfl
      · simp only [List.getElem?_toArray, List.getElem?_cons_succ, List.getElem?_cons_zero]; exact rfl
      · go_simp
        go_at_call 136
        refine (op1_any (numOf a) (numOf b) _ _ _ HNA.out HNB.out hxa hyb).mono ?_; rintro e w6 ⟨z, rfl, hz, hzn, hE⟩; obtain ⟨z1, zc, z2, zd, rfl, k1, k2⟩ := hz
        go_wp2_with fail
        have hS6 : w6.cell? ⟨xb, 0, none⟩ = some (.bool s1) ∧ w6.cell? ⟨xb, 1, none⟩ = some (.slice ta tn tc) ∧ w6.cell? ⟨xb, 2, none⟩ = some (.slice ba bn bc) ∧ w6.cell? ⟨yb, 0, none⟩ = some (.bool s2) ∧ w6.cell? ⟨yb, 1, none⟩ = some (.slice ua un uc) ∧ w6.cell? ⟨yb, 2, none⟩ = some (.slice va vn vc) := ⟨hE.cell hS5.1, hE.cell hS5.2.1, hE.cell hS5.2.2.1, hE.cell hS5.2.2.2.1, hE.cell hS5.2.2.2.2.1, hE.cell hS5.2.2.2.2.2⟩
        refine hK.out _ _ hS6 (fun hHeld => ?_)
        clear hK K hHeld hS5
        (try simp only [Act.put, List.setIfInBounds_toArray, List.set_cons_zero, List.set_cons_succ])
        ((refine wpAnyE_pure (i := 7) (oi := ?_) (v := ?_) ?_ (by kernel_rfl) ?_ ?_ ?_ ?_; rotate_left 2; (focus ((simp only [List.getElem?_toArray, List.getElem?_cons_succ, List.getElem?_cons_zero]; exact rfl))); (focus (exact fun _ _ _ h => h)); (focus (refine Or.inl ⟨by rfl, ?_⟩; intro w hSw; clear hSw; (first | (go_simp; done) | (go_simp; with_reducible rfl)))); (focus (first | exact (fun _ => by assumption) | (intro hlst; exact absurd hlst (by kernel_rfl)) | (intro hlst; cases hlst))); (try simp only [Act.put, List.setIfInBounds_toArray, List.set_cons_zero, List.set_cons_succ])); (refine wpAnyE_pure (i := 8) (oi := ?_) (v := ?_) ?_ (by kernel_rfl) ?_ ?_ ?_ ?_; rotate_left 2; (focus ((simp only [List.getElem?_toArray, List.getElem?_cons_succ, List.getElem?_cons_zero]; exact rfl))); (focus (exact fun _ _ _ h => h)); (focus (refine Or.inl ⟨by rfl, ?_⟩; intro w hSw; clear hSw; (first | (go_simp; done) | (go_simp; with_reducible rfl)))); (focus (first | exact (fun _ => by assumption) | (intro hlst; exact absurd hlst (by kernel_rfl)) | (intro hlst; cases hlst))); (try simp only [Act.put, List.setIfInBounds_toArray, List.set_cons_zero, List.set_cons_succ])); (refine wpAnyE_pure (i := 9) (oi := ?_) (v := ?_) ?_ (by kernel_rfl) ?_ ?_ ?_ ?_; rotate_left 2; (focus ((simp only [List.getElem?_toArray, List.getElem?_cons_succ, List.getElem?_cons_zero]; exact rfl))); (focus (exact fun _ _ _ h => h)); (focus (refine Or.inl ⟨by rfl, ?_⟩; intro w hSw; clear hSw; (first | (go_simp; done) | (go_simp; with_reducible rfl)))); (focus (first | exact (fun _ => by assumption) | (intro hlst; exact absurd hlst (by kernel_rfl)) | (intro hlst; cases hlst))); (try simp only [Act.put, List.setIfInBounds_toArray, List.set_cons_zero, List.set_cons_succ])))
        have EA : Ext w6 (w6.alloc (.cells #[.bool false, .slice none 0 0, .slice none 0 0] 72)) := (by repeat (first | with_reducible exact Ext.refl _ | with_reducible assumption | with_reducible apply Ext.drewN | with_reducible apply Ext.drew | with_reducible apply Ext.alloc | ((with_reducible refine Ext.set ?_ ?_ _); rotate_left; first | omega | (simp; omega)) | (with_reducible refine Ext.trans ?_ (by with_reducible assumption))))
        have N : Num3 w6.heap.size (w6.alloc (.cells #[.bool false, .slice none 0 0, .slice none 0 0] 72)) (.bool false) (.slice none 0 0) (.slice none 0 0) := ⟨by go_simp, by go_simp, by go_simp, by go_simp, by go_simp, by go_simp⟩
        (refine wpAnyE_one (i := 10) (o := ?_) ?_ (by kernel_rfl) (fun K hK => ?_); rotate_left; (focus ((simp only [List.getElem?_toArray, List.getElem?_cons_succ, List.getElem?_cons_zero]; exact rfl))); go_simp; refine hK.out _ _ ?_ (fun hHeld => ?_); rotate_left; clear hK K; (try simp only [Act.put, List.setIfInBounds_toArray, List.set_cons_zero, List.set_cons_succ]))
        rotate_left
        · exact ⟨EA.cell hS6.1, EA.cell hS6.2.1, EA.cell hS6.2.2.1, EA.cell hS6.2.2.2.1, EA.cell hS6.2.2.2.2.1, EA.cell hS6.2.2.2.2.2⟩
        obtain ⟨nb, hnb⟩ : ∃ nb, nb = w6.heap.size := ⟨_, rfl⟩
        rw [← hnb] at N ⊢
        have hnw : w6.heap.size ≤ nb := by omega
        have hww : w.heap.size ≤ nb := by have := (E.trans hE).size; omega
        have E6 := (E.trans hE).trans EA
        have HEA := Lib.hid EA
        clear EA hS6 hHeld hnb E hE
        generalize (w6.alloc (.cells #[.bool false, .slice none 0 0, .slice none 0 0] 72)) = W7 at N HEA E6 ⊢
        have HN := Lib.hid N
        obtain ⟨x0, x1, x2, g0, g1, g2⟩ := N
        (refine wpAnyE_free (i := 11) (o := ?_) ?_ (by kernel_rfl) (by kernel_rfl) (fun K hK => ?_); rotate_left; (focus ((simp only [List.getElem?_toArray, List.getElem?_cons_succ, List.getElem?_cons_zero]; exact rfl))); go_simp; refine hK.out _ _ ?_; clear hK K; (try simp only [Act.put, List.setIfInBounds_toArray, List.set_cons_zero, List.set_cons_succ]))
        ((refine wpAnyE_pure (i := 12) (oi := ?_) (v := ?_) ?_ (by kernel_rfl) ?_ ?_ ?_ ?_; rotate_left 2; (focus ((simp only [List.getElem?_toArray, List.getElem?_cons_succ, List.getElem?_cons_zero]; exact rfl))); (focus (exact fun _ _ _ h => h)); (focus (refine Or.inl ⟨by rfl, ?_⟩; intro w hSw; clear hSw; (first | (go_simp; done) | (go_simp; with_reducible rfl)))); (focus (first | exact (fun _ => by assumption) | (intro hlst; exact absurd hlst (by kernel_rfl)) | (intro hlst; cases hlst))); (try simp only [Act.put, List.setIfInBounds_toArray, List.set_cons_zero, List.set_cons_succ])))
        refine wpAnyE_done (by kernel_rfl) ?_ _
        go_wp2_with fail
        go_meet
        refine ⟨nb, _, _, _, _, _, _, _, rfl, rfl, ((HN.out.set0 _).set1 _).set2 _, ?_, (by repeat (first | with_reducible exact Ext.refl _ | with_reducible assumption | with_reducible apply Ext.drewN | with_reducible apply Ext.drew | with_reducible apply Ext.alloc | ((with_reducible refine Ext.set ?_ ?_ _); rotate_left; first | omega | (simp; omega)) | (with_reducible refine Ext.trans ?_ (by with_reducible assumption))))⟩
        exact NumV.ext ⟨z1, zc, z2, zd, rfl, k1, k2⟩ (((HEA.out.set hnw _).set hnw _).set hnw _)
      · go_simp
        have EA : Ext w5 (w5.alloc (.cells #[.bool false, .slice none 0 0, .slice none 0 0] 72)) := (by repeat (first | with_reducible exact Ext.refl _ | with_reducible assumption | with_reducible apply Ext.drewN | with_reducible apply Ext.drew | with_reducible apply Ext.alloc | ((with_reducible refine Ext.set ?_ ?_ _); rotate_left; first | omega | (simp; omega)) | (with_reducible refine Ext.trans ?_ (by with_reducible assumption))))
        have N : Num3 w5.heap.size (w5.alloc (.cells #[.bool false, .slice none 0 0, .slice none 0 0] 72)) (.bool false) (.slice none 0 0) (.slice none 0 0) := ⟨by go_simp, by go_simp, by go_simp, by go_simp, by go_simp, by go_simp⟩
        have hSA : (w5.alloc (.cells #[.bool false, .slice none 0 0, .slice none 0 0] 72)).cell? ⟨xb, 0, none⟩ = some (.bool s1) ∧ (w5.alloc (.cells #[.bool false, .slice none 0 0, .slice none 0 0] 72)).cell? ⟨xb, 1, none⟩ = some (.slice ta tn tc) ∧ (w5.alloc (.cells #[.bool false, .slice none 0 0, .slice none 0 0] 72)).cell? ⟨xb, 2, none⟩ = some (.slice ba bn bc) ∧ (w5.alloc (.cells #[.bool false, .slice none 0 0, .slice none 0 0] 72)).cell? ⟨yb, 0, none⟩ = some (.bool s2) ∧ (w5.alloc (.cells #[.bool false, .slice none 0 0, .slice none 0 0] 72)).cell? ⟨yb, 1, none⟩ = some (.slice ua un uc) ∧ (w5.alloc (.cells #[.bool false, .slice none 0 0, .slice none 0 0] 72)).cell? ⟨yb, 2, none⟩ = some (.slice va vn vc) := ⟨EA.cell hS5.1, EA.cell hS5.2.1, EA.cell hS5.2.2.1, EA.cell hS5.2.2.2.1, EA.cell hS5.2.2.2.2.1, EA.cell hS5.2.2.2.2.2⟩
        refine hK.out _ _ hSA (fun hHeld => ?_)
        clear hK K hHeld hS5
        (try simp only [Act.put, List.setIfInBounds_toArray, List.set_cons_zero, List.set_cons_succ])
        obtain ⟨nb, hnb⟩ : ∃ nb, nb = w5.heap.size := ⟨_, rfl⟩
        rw [← hnb] at N ⊢
        have hww : w.heap.size ≤ nb := by have := E.size; omega
        replace E := E.trans EA
        replace HNA := Lib.hid (HNA.out.ext EA)
        replace HNB := Lib.hid (HNB.out.ext EA)
        clear EA hnb
        generalize (w5.alloc (.cells #[.bool false, .slice none 0 0, .slice none 0 0] 72)) = w5 at N hSA E HNA HNB ⊢
        (refine wpAnyE_one (i := 6) (o := ?_) ?_ (by kernel_rfl) (fun K hK => ?_); rotate_left; (focus ((simp only [List.getElem?_toArray, List.getElem?_cons_succ, List.getElem?_cons_zero]; exact rfl))); go_simp; go_at_call 136; refine (op1_any (numOf a) (numOf b) _ _ _ HNA.out HNB.out hxa hyb).mono ?_; rintro e w6 ⟨z, rfl, hz, hzn, hE⟩; obtain ⟨z1, zc, z2, zd, rfl, k1, k2⟩ := hz; go_wp2_with fail; refine hK.out _ _ ?_ (fun hHeld => ?_); rotate_left; clear hK K; (try simp only [Act.put, List.setIfInBounds_toArray, List.set_cons_zero, List.set_cons_succ]))
        rotate_left
        · exact ⟨hE.cell hSA.1, hE.cell hSA.2.1, hE.cell hSA.2.2.1, hE.cell hSA.2.2.2.1, hE.cell hSA.2.2.2.2.1, hE.cell hSA.2.2.2.2.2⟩
        have N6 := N.ext hE
        have hnl : nb < w5.heap.size := cell_lt N.c0
        have E6 := E.trans hE
        clear hSA N E hE
        ((refine wpAnyE_pure (i := 7) (oi := ?_) (v := ?_) ?_ (by kernel_rfl) ?_ ?_ ?_ ?_; rotate_left 2; (focus ((simp only [List.getElem?_toArray, List.getElem?_cons_succ, List.getElem?_cons_zero]; exact rfl))); (focus (exact fun _ _ _ h => h)); (focus (refine Or.inl ⟨by rfl, ?_⟩; intro w hSw; clear hSw; (first | (go_simp; done) | (go_simp; with_reducible rfl)))); (focus (first | exact (fun _ => by assumption) | (intro hlst; exact absurd hlst (by kernel_rfl)) | (intro hlst; cases hlst))); (try simp only [Act.put, List.setIfInBounds_toArray, List.set_cons_zero, List.set_cons_succ])); (refine wpAnyE_pure (i := 8) (oi := ?_) (v := ?_) ?_ (by kernel_rfl) ?_ ?_ ?_ ?_; rotate_left 2; (focus ((simp only [List.getElem?_toArray, List.getElem?_cons_succ, List.getElem?_cons_zero]; exact rfl))); (focus (exact fun _ _ _ h => h)); (focus (refine Or.inl ⟨by rfl, ?_⟩; intro w hSw; clear hSw; (first | (go_simp; done) | (go_simp; with_reducible rfl)))); (focus (first | exact (fun _ => by assumption) | (intro hlst; exact absurd hlst (by kernel_rfl)) | (intro hlst; cases hlst))); (try simp only [Act.put, List.setIfInBounds_toArray, List.set_cons_zero, List.set_cons_succ])); (refine wpAnyE_pure (i := 9) (oi := ?_) (v := ?_) ?_ (by kernel_rfl) ?_ ?_ ?_ ?_; rotate_left 2; (focus ((simp only [List.getElem?_toArray, List.getElem?_cons_succ, List.getElem?_cons_zero]; exact rfl))); (focus (exact fun _ _ _ h => h)); (focus (refine Or.inl ⟨by rfl, ?_⟩; intro w hSw; clear hSw; (first | (go_simp; done) | (go_simp; with_reducible rfl)))); (focus (first | exact (fun _ => by assumption) | (intro hlst; exact absurd hlst (by kernel_rfl)) | (intro hlst; cases hlst))); (try simp only [Act.put, List.setIfInBounds_toArray, List.set_cons_zero, List.set_cons_succ])))
        clear hHeld
        have HN := Lib.hid N6
        obtain ⟨x0, x1, x2, g0, g1, g2⟩ := N6
        (refine wpAnyE_free (i := 11) (o := ?_) ?_ (by kernel_rfl) (by kernel_rfl) (fun K hK => ?_); rotate_left; (focus ((simp only [List.getElem?_toArray, List.getElem?_cons_succ, List.getElem?_cons_zero]; exact rfl))); go_simp; refine hK.out _ _ ?_; clear hK K; (try simp only [Act.put, List.setIfInBounds_toArray, List.set_cons_zero, List.set_cons_succ]))
        ((refine wpAnyE_pure (i := 12) (oi := ?_) (v := ?_) ?_ (by kernel_rfl) ?_ ?_ ?_ ?_; rotate_left 2; (focus ((simp only [List.getElem?_toArray, List.getElem?_cons_succ, List.getElem?_cons_zero]; exact rfl))); (focus (exact fun _ _ _ h => h)); (focus (refine Or.inl ⟨by rfl, ?_⟩; intro w hSw; clear hSw; (first | (go_simp; done) | (go_simp; with_reducible rfl)))); (focus (first | exact (fun _ => by assumption) | (intro hlst; exact absurd hlst (by kernel_rfl)) | (intro hlst; cases hlst))); (try simp only [Act.put, List.setIfInBounds_toArray, List.set_cons_zero, List.set_cons_succ])))
        refine wpAnyE_done (by kernel_rfl) ?_ _
        go_wp2_with fail
        go_meet
        refine ⟨nb, _, _, _, _, _, _, _, rfl, rfl, ((HN.out.set0 _).set1 _).set2 _, ?_, (by repeat (first | with_reducible exact Ext.refl _ | with_reducible assumption | with_reducible apply Ext.drewN | with_reducible apply Ext.drew | with_reducible apply Ext.alloc | ((with_reducible refine Ext.set ?_ ?_ _); rotate_left; first | omega | (simp; omega)) | (with_reducible refine Ext.trans ?_ (by with_reducible assumption))))⟩
        exact NumV.set (NumV.set (NumV.set ⟨z1, zc, z2, zd, rfl, k1, k2⟩ hzn hnl) hzn hnl) hzn hnl
    · go_simp
      have EA : Ext W4 (W4.alloc (.cells #[.bool false, .slice none 0 0, .slice none 0 0] 72)) := (by repeat (first | with_reducible exact Ext.refl _ | with_reducible assumption | with_reducible apply Ext.drewN | with_reducible apply Ext.drew | with_reducible apply Ext.alloc | ((with_reducible refine Ext.set ?_ ?_ _); rotate_left; first | omega | (simp; omega)) | (with_reducible refine Ext.trans ?_ (by with_reducible assumption))))
      have N : Num3 W4.heap.size (W4.alloc (.cells #[.bool false, .slice none 0 0, .slice none 0 0] 72)) (.bool false) (.slice none 0 0) (.slice none 0 0) := ⟨by go_simp, by go_simp, by go_simp, by go_simp, by go_simp, by go_simp⟩
      have hSA : (W4.alloc (.cells #[.bool false, .slice none 0 0, .slice none 0 0] 72)).cell? ⟨xb, 0, none⟩ = some (.bool s1) ∧ (W4.alloc (.cells #[.bool false, .slice none 0 0, .slice none 0 0] 72)).cell? ⟨xb, 1, none⟩ = some (.slice ta tn tc) ∧ (W4.alloc (.cells #[.bool false, .slice none 0 0, .slice none 0 0] 72)).cell? ⟨xb, 2, none⟩ = some (.slice ba bn bc) ∧ (W4.alloc (.cells #[.bool false, .slice none 0 0, .slice none 0 0] 72)).cell? ⟨yb, 0, none⟩ = some (.bool s2) ∧ (W4.alloc (.cells #[.bool false, .slice none 0 0, .slice none 0 0] 72)).cell? ⟨yb, 1, none⟩ = some (.slice ua un uc) ∧ (W4.alloc (.cells #[.bool false, .slice none 0 0, .slice none 0 0] 72)).cell? ⟨yb, 2, none⟩ = some (.slice va vn vc) := ⟨EA.cell hS.1, EA.cell hS.2.1, EA.cell hS.2.2.1, EA.cell hS.2.2.2.1, EA.cell hS.2.2.2.2.1, EA.cell hS.2.2.2.2.2⟩
      refine hK.out _ _ hSA (fun hHeld => ?_)
      clear hK K hHeld hS
      (try simp only [Act.put, List.setIfInBounds_toArray, List.set_cons_zero, List.set_cons_succ])
      obtain ⟨nb, hnb⟩ : ∃ nb, nb = W4.heap.size := ⟨_, rfl⟩
      rw [← hnb] at N ⊢
      have hww : w.heap.size ≤ nb := by have := E.size; omega
      replace E := E.trans EA
      replace HNA := Lib.hid (HNA.out.ext EA)
      replace HNB := Lib.hid (HNB.out.ext EA)
      clear EA hnb
      generalize (W4.alloc (.cells #[.bool false, .slice none 0 0, .slice none 0 0] 72)) = W5 at N hSA E HNA HNB ⊢
      (refine wpAnyE_one (i := 0) (o := ?_) ?_ (by kernel_rfl) (fun K hK => ?_); rotate_left; (focus ((simp only [List.getElem?_toArray, List.getElem?_cons_zero]; exact rfl))); go_simp; go_at_call 107; refine (operations_any _).mono ?_; rintro e w5 ⟨rfl, hE⟩; go_wp2_with fail; refine hK.out _ _ ?_ (fun hHeld => ?_); rotate_left; clear hK K; (try simp only [Act.put, List.setIfInBounds_toArray, List.set_cons_zero, List.set_cons_succ]))
      rotate_left
      · exact ⟨hE.cell hSA.1, hE.cell hSA.2.1, hE.cell hSA.2.2.1, hE.cell hSA.2.2.2.1, hE.cell hSA.2.2.2.2.1, hE.cell hSA.2.2.2.2.2⟩
      replace hSA : w5.cell? ⟨xb, 0, none⟩ = some (.bool s1) ∧ w5.cell? ⟨xb, 1, none⟩ = some (.slice ta tn tc) ∧ w5.cell? ⟨xb, 2, none⟩ = some (.slice ba bn bc) ∧ w5.cell? ⟨yb, 0, none⟩ = some (.bool s2) ∧ w5.cell? ⟨yb, 1, none⟩ = some (.slice ua un uc) ∧ w5.cell? ⟨yb, 2, none⟩ = some (.slice va vn vc) := ⟨hE.cell hSA.1, hE.cell hSA.2.1, hE.cell hSA.2.2.1, hE.cell hSA.2.2.2.1, hE.cell hSA.2.2.2.2.1, hE.cell hSA.2.2.2.2.2⟩
      replace N := N.ext hE
      replace E := E.trans hE
      replace HNA := Lib.hid (HNA.out.ext hE)
      replace HNB := Lib.hid (HNB.out.ext hE)
      clear hE hHeld
      ((refine wpAnyE_take (i := 2) (oi := ?_) (v := ?_) ?_ (by kernel_rfl) ?_ ?_ (by assumption) ?_; rotate_left 2; (focus ((simp only [List.getElem?_toArray, List.getElem?_cons_succ, List.getElem?_cons_zero]; exact rfl))); (focus (exact fun _ _ _ h => h)); (focus (refine Or.inl ⟨by rfl, ?_⟩; intro w hSw; (try dsimp only at hSw); (first | (go_simp; done) | (go_simp; with_reducible rfl)))); (try simp only [Act.put, List.setIfInBounds_toArray, List.set_cons_zero, List.set_cons_succ])); (refine wpAnyE_take (i := 3) (oi := ?_) (v := ?_) ?_ (by kernel_rfl) ?_ ?_ (by assumption) ?_; rotate_left 2; (focus ((simp only [List.getElem?_toArray, List.getElem?_cons_succ, List.getElem?_cons_zero]; exact rfl))); (focus (exact fun _ _ _ h => h)); (focus (refine Or.inl ⟨by rfl, ?_⟩; intro w hSw; (try dsimp only at hSw); (first | (go_simp; done) | (go_simp; with_reducible rfl)))); (try simp only [Act.put, List.setIfInBounds_toArray, List.set_cons_zero, List.set_cons_succ])))
      (refine wpAnyE_one (i := 6) (o := ?_) ?_ (by kernel_rfl) (fun K hK => ?_); rotate_left; (focus ((simp only [List.getElem?_toArray, List.getElem?_cons_succ, List.getElem?_cons_zero]; exact rfl))); go_simp; go_at_call 136; refine (op1_any (numOf a) (numOf b) _ _ _ HNA.out HNB.out hxa hyb).mono ?_; rintro e w6 ⟨z, rfl, hz, hzn, hE⟩; obtain ⟨z1, zc, z2, zd, rfl, k1, k2⟩ := hz; go_wp2_with fail; refine hK.out _ _ ?_ (fun hHeld => ?_); rotate_left; clear hK K; (try simp only [Act.put, List.setIfInBounds_toArray, List.set_cons_zero, List.set_cons_succ]))
      rotate_left
      · exact ⟨hE.cell hSA.1, hE.cell hSA.2.1, hE.cell hSA.2.2.1, hE.cell hSA.2.2.2.1, hE.cell hSA.2.2.2.2.1, hE.cell hSA.2.2.2.2.2⟩
      have N6 := N.ext hE
      have hnl : nb < w5.heap.size := cell_lt N.c0
      have E6 := E.trans hE
      clear hSA N E hE
      ((refine wpAnyE_pure (i := 7) (oi := ?_) (v := ?_) ?_ (by kernel_rfl) ?_ ?_ ?_ ?_; rotate_left 2; (focus ((simp only [List.getElem?_toArray, List.getElem?_cons_succ, List.getElem?_cons_zero]; exact rfl))); (focus (exact fun _ _ _ h => h)); (focus (refine Or.inl ⟨by rfl, ?_⟩; intro w hSw; clear hSw; (first | (go_simp; done) | (go_simp; with_reducible rfl)))); (focus (first | exact (fun _ => by assumption) | (intro hlst; exact absurd hlst (by kernel_rfl)) | (intro hlst; cases hlst))); (try simp only [Act.put, List.setIfInBounds_toArray, List.set_cons_zero, List.set_cons_succ])); (refine wpAnyE_pure (i := 8) (oi := ?_) (v := ?_) ?_ (by kernel_rfl) ?_ ?_ ?_ ?_; rotate_left 2; (focus ((simp only [List.getElem?_toArray, List.getElem?_cons_succ, List.getElem?_cons_zero]; exact rfl))); (focus (exact fun _ _ _ h => h)); (focus (refine Or.inl ⟨by rfl, ?_⟩; intro w hSw; clear hSw; (first | (go_simp; done) | (go_simp; with_reducible rfl)))); (focus (first | exact (fun _ => by assumption) | (intro hlst; exact absurd hlst (by kernel_rfl)) | (intro hlst; cases hlst))); (try simp only [Act.put, List.setIfInBounds_toArray, List.set_cons_zero, List.set_cons_succ])); (refine wpAnyE_pure (i := 9) (oi := ?_) (v := ?_) ?_ (by kernel_rfl) ?_ ?_ ?_ ?_; rotate_left 2; (focus ((simp only [List.getElem?_toArray, List.getElem?_cons_succ, List.getElem?_cons_zero]; exact rfl))); (focus (exact fun _ _ _ h => h)); (focus (refine Or.inl ⟨by rfl, ?_⟩; intro w hSw; clear hSw; (first | (go_simp; done) | (go_simp; with_reducible rfl)))); (focus (first | exact (fun _ => by assumption) | (intro hlst; exact absurd hlst (by kernel_rfl)) | (intro hlst; cases hlst))); (try simp only [Act.put, List.setIfInBounds_toArray, List.set_cons_zero, List.set_cons_succ])))
      clear hHeld
      have HN := Lib.hid N6
      obtain ⟨x0, x1, x2, g0, g1, g2⟩ := N6
      (refine wpAnyE_free (i := 11) (o := ?_) ?_ (by kernel_rfl) (by kernel_rfl) (fun K hK => ?_); rotate_left; (focus ((simp only [List.getElem?_toArray, List.getElem?_cons_succ, List.getElem?_cons_zero]; exact rfl))); go_simp; refine hK.out _ _ ?_; clear hK K; (try simp only [Act.put, List.setIfInBounds_toArray, List.set_cons_zero, List.set_cons_succ]))
      ((refine wpAnyE_pure (i := 12) (oi := ?_) (v := ?_) ?_ (by kernel_rfl) ?_ ?_ ?_ ?_; rotate_left 2; (focus ((simp only [List.getElem?_toArray, List.getElem?_cons_succ, List.getElem?_cons_zero]; exact rfl))); (focus (exact fun _ _ _ h => h)); (focus (refine Or.inl ⟨by rfl, ?_⟩; intro w hSw; clear hSw; (first | (go_simp; done) | (go_simp; with_reducible rfl)))); (focus (first | exact (fun _ => by assumption) | (intro hlst; exact absurd hlst (by kernel_rfl)) | (intro hlst; cases hlst))); (try simp only [Act.put, List.setIfInBounds_toArray, List.set_cons_zero, List.set_cons_succ])))
      refine wpAnyE_done (by kernel_rfl) ?_ _
      go_wp2_with fail
      go_meet
      refine ⟨nb, _, _, _, _, _, _, _, rfl, rfl, ((HN.out.set0 _).set1 _).set2 _, ?_, (by repeat (first | with_reducible exact Ext.refl _ | with_reducible assumption | with_reducible apply Ext.drewN | with_reducible apply Ext.drew | with_reducible apply Ext.alloc | ((with_reducible refine Ext.set ?_ ?_ _); rotate_left; first | omega | (simp; omega)) | (with_reducible refine Ext.trans ?_ (by with_reducible assumption))))⟩
      exact NumV.set (NumV.set (NumV.set ⟨z1, zc, z2, zd, rfl, k1, k2⟩ hzn hnl) hzn hnl) hzn hnl
  case rest =>
    obtain ⟨nb, z0, z1, zn, zc, z2, zm, zd, rfl, rfl, N, HZ, E⟩ := hcut
    have ka := (numOf_len HEA.out).2
    have kb := (numOf_len HEB.out).2
    have hval : valQ (sumN (numOf a) (negN (numOf b))) = fracQ a - fracQ b := (sumN_val ka (show (negN (numOf b)).2.2 ≠ 0 from kb)).1.trans (by rw [negN_val, numOf_val, numOf_val, Rat.sub_eq_add_neg])
    have hden : (sumN (numOf a) (negN (numOf b))).2.2 ≠ 0 := (sumN_val ka (show (negN (numOf b)).2.2 ≠ 0 from kb)).2
    have hlen := sumN_len hxa (show LenN 40 (negN (numOf b)) from hyb)
    have HRR := Lib.hid (HRES.out.2.2 HEA.out HEB.out)
    generalize sumN (numOf a) (negN (numOf b)) = SN at *
    have HW := Lib.hid (written_any SN.1 SN.2.1 SN.2.2 _ _ HZ.out hden (HG.out.ext E) hlen.1 hlen.2)
    have HV := Lib.hid (show numQ SN.1 SN.2.1 SN.2.2 = fracQ a - fracQ b from hval)
    obtain ⟨x0, x1, x2, _, _, _⟩ := N.out
    clear X Y HNA HNB HRES HZ N hval hden hlen ka kb hxa hyb
    go_wp2_with (go_at_call 54; refine HW.out.mono ?_; rintro e w9 ⟨rfl, hE⟩)
    go_ret2
    exact ⟨by rw [HRR.out, HV.out]; rfl, E.trans hE⟩
end Go.Proofs.YtpfanpkinlklnaaGreatDoor
/- A computation of two texts: operation 2. (Printed by gencomp.py.) -/
namespace Go.Proofs.YtpfanpkinlklnaaGreatDoor
open Go.RowKit

set_option maxHeartbeats 16000000 in
set_option maxRecDepth 100000 in
theorem computed2_any (a b : Txt) (w : World) (hG : Glob w) (ha : a.length ≤ 400) (hb : b.length ≤ 400) :
    Calls Tryz.prog 69 #[.int .i64 2, txt a, txt b] w (ResPost (mulS a b) w) := by
  have HG := Lib.hid hG
  have HPA := Lib.hid (fun W (hW : Ext w W) => parsed_any a W (hG.ext hW) ha)
  have HPB := Lib.hid (fun W (hW : Ext w W) => parsed_any b W (hG.ext hW) hb)
  have HRES := Lib.hid (@mul_res a b)
  clear hG
  go_enter Tryz.func69, Tryz.ntmps69
  go_wp2_with fail
  refine (HPA.out _ (Ext.refl _)).mono ?_
  rintro e w1 ⟨v1, rfl, ⟨s1, ta, tn, tc, ba, bn, bc, rfl⟩, hn1, hE⟩
  have HN1 := Lib.hid hn1
  clear hn1 HPA
  by_cases ea : fracE a = 0
  rotate_left
  · have HR := Lib.hid (HRES.out.1 ea)
    have hne : (((fracE a : Nat) : Int) != 0) = true := by rw [bne_iff_ne]; omega
    clear HN1 HPB HRES
    generalize fracE a = n at *
    go_wp2_with fail
    go_ret2
    exact ⟨by rw [HR.out]; rfl, (by repeat (first | with_reducible exact Ext.refl _ | with_reducible assumption | with_reducible apply Ext.drewN | with_reducible apply Ext.drew | with_reducible apply Ext.alloc | ((with_reducible refine Ext.set ?_ ?_ _); rotate_left; first | omega | (simp; omega)) | (with_reducible refine Ext.trans ?_ (by with_reducible assumption))))⟩
  have HNA := Lib.hid (HN1.out ea)
  rw [ea]
  have HEA := Lib.hid ea
  clear ea HN1
  have EV : Ext w1 (w1.alloc (.cells #[.bool s1, .slice ta tn tc, .slice ba bn bc] 72)) := (by repeat (first | with_reducible exact Ext.refl _ | with_reducible assumption | with_reducible apply Ext.drewN | with_reducible apply Ext.drew | with_reducible apply Ext.alloc | ((with_reducible refine Ext.set ?_ ?_ _); rotate_left; first | omega | (simp; omega)) | (with_reducible refine Ext.trans ?_ (by with_reducible assumption))))
  have X : Num3 w1.heap.size (w1.alloc (.cells #[.bool s1, .slice ta tn tc, .slice ba bn bc] 72)) (.bool s1) (.slice ta tn tc) (.slice ba bn bc) := ⟨by go_simp, by go_simp, by go_simp, by go_simp, by go_simp, by go_simp⟩
  have E := hE.trans EV
  replace HNA := Lib.hid (HNA.out.ext EV)
  clear EV hE
  go_wp2_with fail
  obtain ⟨xb, hxb⟩ : ∃ xb, xb = w1.heap.size := ⟨_, rfl⟩
  rw [← hxb] at X ⊢
  clear hxb
  generalize (w1.alloc (.cells #[.bool s1, .slice ta tn tc, .slice ba bn bc] 72)) = W1 at X E HNA ⊢
  refine (HPB.out _ E).mono ?_
  rintro e w3 ⟨v2, rfl, ⟨s2, ua, un, uc, va, vn, vc, rfl⟩, hn2, hE⟩
  replace X := X.ext hE
  replace E := E.trans hE
  replace HNA := Lib.hid (HNA.out.ext hE)
  have HN2 := Lib.hid hn2
  clear hn2 HPB hE
  by_cases eb : fracE b = 0
  rotate_left
  · have HR := Lib.hid (HRES.out.2.1 HEA.out eb)
    have hne : (((fracE b : Nat) : Int) != 0) = true := by rw [bne_iff_ne]; omega
    clear HN2 HRES HEA
    generalize fracE b = n at *
    go_wp2_with fail
    go_ret2
    exact ⟨by rw [HR.out]; rfl, (by repeat (first | with_reducible exact Ext.refl _ | with_reducible assumption | with_reducible apply Ext.drewN | with_reducible apply Ext.drew | with_reducible apply Ext.alloc | ((with_reducible refine Ext.set ?_ ?_ _); rotate_left; first | omega | (simp; omega)) | (with_reducible refine Ext.trans ?_ (by with_reducible assumption))))⟩
  have HNB := Lib.hid (HN2.out eb)
  rw [eb]
  have HEB := Lib.hid eb
  clear eb HN2
  have EV : Ext w3 (w3.alloc (.cells #[.bool s2, .slice ua un uc, .slice va vn vc] 72)) := (by repeat (first | with_reducible exact Ext.refl _ | with_reducible assumption | with_reducible apply Ext.drewN | with_reducible apply Ext.drew | with_reducible apply Ext.alloc | ((with_reducible refine Ext.set ?_ ?_ _); rotate_left; first | omega | (simp; omega)) | (with_reducible refine Ext.trans ?_ (by with_reducible assumption))))
  have Y : Num3 w3.heap.size (w3.alloc (.cells #[.bool s2, .slice ua un uc, .slice va vn vc] 72)) (.bool s2) (.slice ua un uc) (.slice va vn vc) := ⟨by go_simp, by go_simp, by go_simp, by go_simp, by go_simp, by go_simp⟩
  replace X := X.ext EV
  replace E := E.trans EV
  replace HNA := Lib.hid (HNA.out.ext EV)
  replace HNB := Lib.hid (HNB.out.ext EV)
  clear EV
  go_wp2_with fail
  obtain ⟨yb, hyb⟩ : ∃ yb, yb = w3.heap.size := ⟨_, rfl⟩
  rw [← hyb] at Y ⊢
  clear hyb
  generalize (w3.alloc (.cells #[.bool s2, .slice ua un uc, .slice va vn vc] 72)) = W3 at X Y E HNA HNB ⊢
  have hix := op_index2
  have hfi := op_field
  have hxa := (numOf_len HEA.out).1
  have hyb := (numOf_len HEB.out).1
  go_cut [11, 9] (fun n ev wx => ∃ nb z0 z1 zn zc z2 zm zd, n = .pointer (some ⟨nb, 0, none⟩) ∧ ev = .int .i64 0 ∧ Hid (Num3 nb wx (.bool z0) (.slice z1 zn zc) (.slice z2 zm zd)) ∧ Hid (NumV wx (.agg #[.bool z0, .slice z1 zn zc, .slice z2 zm zd]) (mulN (numOf a) (numOf b))) ∧ Ext w wx)
  case first =>
    have hdr : Ext W3 W3.drew := (by repeat (first | with_reducible exact Ext.refl _ | with_reducible assumption | with_reducible apply Ext.drewN | with_reducible apply Ext.drew | with_reducible apply Ext.alloc | ((with_reducible refine Ext.set ?_ ?_ _); rotate_left; first | omega | (simp; omega)) | (with_reducible refine Ext.trans ?_ (by with_reducible assumption))))
    replace X := X.ext hdr
    replace Y := Y.ext hdr
    replace E := E.trans hdr
    replace HNA := Lib.hid (HNA.out.ext hdr)
    replace HNB := Lib.hid (HNB.out.ext hdr)
    have hS : W3.drew.cell? ⟨xb, 0, none⟩ = some (.bool s1) ∧ W3.drew.cell? ⟨xb, 1, none⟩ = some (.slice ta tn tc) ∧ W3.drew.cell? ⟨xb, 2, none⟩ = some (.slice ba bn bc) ∧ W3.drew.cell? ⟨yb, 0, none⟩ = some (.bool s2) ∧ W3.drew.cell? ⟨yb, 1, none⟩ = some (.slice ua un uc) ∧ W3.drew.cell? ⟨yb, 2, none⟩ = some (.slice va vn vc) := ⟨X.c0, X.c1, X.c2, Y.c0, Y.c1, Y.c2⟩
    refine wp_region_heldE 11 (fun w' => w'.cell? ⟨xb, 0, none⟩ = some (.bool s1) ∧ w'.cell? ⟨xb, 1, none⟩ = some (.slice ta tn tc) ∧ w'.cell? ⟨xb, 2, none⟩ = some (.slice ba bn bc) ∧ w'.cell? ⟨yb, 0, none⟩ = some (.bool s2) ∧ w'.cell? ⟨yb, 1, none⟩ = some (.slice ua un uc) ∧ w'.cell? ⟨yb, 2, none⟩ = some (.slice va vn vc)) (by kernel_rfl) ?_
    clear hdr X Y
    generalize W3.drew = W4 at E HNA HNB hS ⊢
    ((refine wpAnyE_take (i := 1) (oi := ?_) (v := ?_) ?_ (by kernel_rfl) ?_ ?_ (by assumption) ?_; rotate_left 2; (focus ((simp only [List.getElem?_toArray, List.getElem?_cons_succ, List.getElem?_cons_zero]; exact rfl))); (focus (exact fun _ _ _ h => h)); (focus (refine Or.inl ⟨by rfl, ?_⟩; intro w hSw; (try dsimp only at hSw); (first | (go_simp; done) | (go_simp; with_reducible rfl)))); (try simp only [Act.put, List.setIfInBounds_toArray, List.set_cons_zero, List.set_cons_succ])); (refine wpAnyE_take (i := 4) (oi := ?_) (v := ?_) ?_ (by kernel_rfl) ?_ ?_ (by assumption) ?_; rotate_left 2; (focus ((simp only [List.getElem?_toArray, List.getElem?_cons_succ, List.getElem?_cons_zero]; exact rfl))); (focus (exact fun _ _ _ h => h)); (focus (refine Or.inl ⟨by rfl, ?_⟩; intro w hSw; (try dsimp only at hSw); (first | (go_simp; done) | (go_simp; with_reducible rfl)))); (try simp only [Act.put, List.setIfInBounds_toArray, List.set_cons_zero, List.set_cons_succ])); (refine wpAnyE_take (i := 5) (oi := ?_) (v := ?_) ?_ (by kernel_rfl) ?_ ?_ (by assumption) ?_; rotate_left 2; (focus ((simp only [List.getElem?_toArray, List.getElem?_cons_succ, List.getElem?_cons_zero]; exact rfl))); (focus (exact fun _ _ _ h => h)); (focus (refine Or.inl ⟨by rfl, ?_⟩; intro w hSw; (try dsimp only at hSw); (first | (go_simp; done) | (go_simp; with_reducible rfl)))); (try simp only [Act.put, List.setIfInBounds_toArray, List.set_cons_zero, List.set_cons_succ])))
    refine wpAnyE_two (i := 0) (j := 10) (o := ?_) (p := ?_) ?_ ?_ (by kernel_rfl) (fun K hK => ?_) (fun K hK => ?_)
    rotate_left 2
    · simp only [List.getElem?_toArray, List.getElem?_cons_zero]; exact rfl
    · simp only [List.getElem?_toArray, List.getElem?_cons_succ, List.getElem?_cons_zero]; exact rfl
    · go_simp
      go_at_call 107
      refine (operations_any _).mono ?_
      rintro e w5 ⟨rfl, hE⟩
      go_wp2_with fail
      have hS5 : w5.cell? ⟨xb, 0, none⟩ = some (.bool s1) ∧ w5.cell? ⟨xb, 1, none⟩ = some (.slice ta tn tc) ∧ w5.cell? ⟨xb, 2, none⟩ = some (.slice ba bn bc) ∧ w5.cell? ⟨yb, 0, none⟩ = some (.bool s2) ∧ w5.cell? ⟨yb, 1, none⟩ = some (.slice ua un uc) ∧ w5.cell? ⟨yb, 2, none⟩ = some (.slice va vn vc) := ⟨hE.cell hS.1, hE.cell hS.2.1, hE.cell hS.2.2.1, hE.cell hS.2.2.2.1, hE.cell hS.2.2.2.2.1, hE.cell hS.2.2.2.2.2⟩
      refine hK.out _ _ hS5 (fun hHeld => ?_)
      clear hK K hHeld
      (try simp only [Act.put, List.setIfInBounds_toArray, List.set_cons_zero, List.set_cons_succ])
      replace E := E.trans hE
      replace HNA := Lib.hid (HNA.out.ext hE)
      replace HNB := Lib.hid (HNB.out.ext hE)
      clear hE hS
      ((refine wpAnyE_take (i := 2) (oi := ?_) (v := ?_) ?_ (by kernel_rfl) ?_ ?_ (by assumption) ?_; rotate_left 2; (focus ((simp only [List.getElem?_toArray, List.getElem?_cons_succ, List.getElem?_cons_zero]; exact rfl))); (focus (exact fun _ _ _ h => h)); (focus (refine Or.inl ⟨by rfl, ?_⟩; intro w hSw; (try dsimp only at hSw); (first | (go_simp; done) | (go_simp; with_reducible rfl)))); (try simp only [Act.put, List.setIfInBounds_toArray, List.set_cons_zero, List.set_cons_succ])); (refine wpAnyE_take (i := 3) (oi := ?_) (v := ?_) ?_ (by kernel_rfl) ?_ ?_ (by assumption) ?_; rotate_left 2; (focus ((simp only [List.getElem?_toArray, List.getElem?_cons_succ, List.getElem?_cons_zero]; exact rfl))); (focus (exact fun _ _ _ h => h)); (focus (refine Or.inl ⟨by rfl, ?_⟩; intro w hSw; (try dsimp only at hSw); (first | (go_simp; done) | (go_simp; with_reducible rfl)))); (try simp only [Act.put, List.setIfInBounds_toArray, List.set_cons_zero, List.set_cons_succ])))
      refine wpAnyE_two (i := 6) (j := 10) (o := ?_) (p := ?_) ?_ ?_ (by kernel_rfl) (fun K hK => ?_) (fun K hK => ?_)
      rotate_left 2
      · simp only [List.getElem?_toArray, List.getElem?_cons_succ, List.getElem?_cons_zero]; exact rfl
      · simp only [List.getElem?_toArray, List.getElem?_cons_succ, List.getElem?_cons_zero]; exact rfl
      · go_simp
        go_at_call 137
        refine (op2_any (numOf a) (numOf b) _ _ _ HNA.out HNB.out hxa hyb).mono ?_; rintro e w6 ⟨z, rfl, hz, hzn, hE⟩; obtain ⟨z1, zc, z2, zd, rfl, k1, k2⟩ := hz
        go_wp2_with fail
        have hS6 : w6.cell? ⟨xb, 0, none⟩ = some (.bool s1) ∧ w6.cell? ⟨xb, 1, none⟩ = some (.slice ta tn tc) ∧ w6.cell? ⟨xb, 2, none⟩ = some (.slice ba bn bc) ∧ w6.cell? ⟨yb, 0, none⟩ = some (.bool s2) ∧ w6.cell? ⟨yb, 1, none⟩ = some (.slice ua un uc) ∧ w6.cell? ⟨yb, 2, none⟩ = some (.slice va vn vc) := ⟨hE.cell hS5.1, hE.cell hS5.2.1, hE.cell hS5.2.2.1, hE.cell hS5.2.2.2.1, hE.cell hS5.2.2.2.2.1, hE.cell hS5.2.2.2.2.2⟩
        refine hK.out _ _ hS6 (fun hHeld => ?_)
        clear hK K hHeld hS5
        (try simp only [Act.put, List.setIfInBounds_toArray, List.set_cons_zero, List.set_cons_succ])
        ((refine wpAnyE_pure (i := 7) (oi := ?_) (v := ?_) ?_ (by kernel_rfl) ?_ ?_ ?_ ?_; rotate_left 2; (focus ((simp only [List.getElem?_toArray, List.getElem?_cons_succ, List.getElem?_cons_zero]; exact rfl))); (focus (exact fun _ _ _ h => h)); (focus (refine Or.inl ⟨by rfl, ?_⟩; intro w hSw; clear hSw; (first | (go_simp; done) | (go_simp; with_reducible rfl)))); (focus (first | exact (fun _ => by assumption) | (intro hlst; exact absurd hlst (by kernel_rfl)) | (intro hlst; cases hlst))); (try simp only [Act.put, List.setIfInBounds_toArray, List.set_cons_zero, List.set_cons_succ])); (refine wpAnyE_pure (i := 8) (oi := ?_) (v := ?_) ?_ (by kernel_rfl) ?_ ?_ ?_ ?_; rotate_left 2; (focus ((simp only [List.getElem?_toArray, List.getElem?_cons_succ, List.getElem?_cons_zero]; exact rfl))); (focus (exact fun _ _ _ h => h)); (focus (refine Or.inl ⟨by rfl, ?_⟩; intro w hSw; clear hSw; (first | (go_simp; done) | (go_simp; with_reducible rfl)))); (focus (first | exact (fun _ => by assumption) | (intro hlst; exact absurd hlst (by kernel_rfl)) | (intro hlst; cases hlst))); (try simp only [Act.put, List.setIfInBounds_toArray, List.set_cons_zero, List.set_cons_succ])); (refine wpAnyE_pure (i := 9) (oi := ?_) (v := ?_) ?_ (by kernel_rfl) ?_ ?_ ?_ ?_; rotate_left 2; (focus ((simp only [List.getElem?_toArray, List.getElem?_cons_succ, List.getElem?_cons_zero]; exact rfl))); (focus (exact fun _ _ _ h => h)); (focus (refine Or.inl ⟨by rfl, ?_⟩; intro w hSw; clear hSw; (first | (go_simp; done) | (go_simp; with_reducible rfl)))); (focus (first | exact (fun _ => by assumption) | (intro hlst; exact absurd hlst (by kernel_rfl)) | (intro hlst; cases hlst))); (try simp only [Act.put, List.setIfInBounds_toArray, List.set_cons_zero, List.set_cons_succ])))
        have EA : Ext w6 (w6.alloc (.cells #[.bool false, .slice none 0 0, .slice none 0 0] 72)) := (by repeat (first | with_reducible exact Ext.refl _ | with_reducible assumption | with_reducible apply Ext.drewN | with_reducible apply Ext.drew | with_reducible apply Ext.alloc | ((with_reducible refine Ext.set ?_ ?_ _); rotate_left; first | omega | (simp; omega)) | (with_reducible refine Ext.trans ?_ (by with_reducible assumption))))
        have N : Num3 w6.heap.size (w6.alloc (.cells #[.bool false, .slice none 0 0, .slice none 0 0] 72)) (.bool false) (.slice none 0 0) (.slice none 0 0) := ⟨by go_simp, by go_simp, by go_simp, by go_simp, by go_simp, by go_simp⟩
        (refine wpAnyE_one (i := 10) (o := ?_) ?_ (by kernel_rfl) (fun K hK => ?_); rotate_left; (focus ((simp only [List.getElem?_toArray, List.getElem?_cons_succ, List.getElem?_cons_zero]; exact rfl))); go_simp; refine hK.out _ _ ?_ (fun hHeld => ?_); rotate_left; clear hK K; (try simp only [Act.put, List.setIfInBounds_toArray, List.set_cons_zero, List.set_cons_succ]))
        rotate_left
        · exact ⟨EA.cell hS6.1, EA.cell hS6.2.1, EA.cell hS6.2.2.1, EA.cell hS6.2.2.2.1, EA.cell hS6.2.2.2.2.1, EA.cell hS6.2.2.2.2.2⟩
        obtain ⟨nb, hnb⟩ : ∃ nb, nb = w6.heap.size := ⟨_, rfl⟩
        rw [← hnb] at N ⊢
        have hnw : w6.heap.size ≤ nb := by omega
        have hww : w.heap.size ≤ nb := by have := (E.trans hE).size; omega
        have E6 := (E.trans hE).trans EA
        have HEA := Lib.hid EA
        clear EA hS6 hHeld hnb E hE
        generalize (w6.alloc (.cells #[.bool false, .slice none 0 0, .slice none 0 0] 72)) = W7 at N HEA E6 ⊢
        have HN := Lib.hid N
        obtain ⟨x0, x1, x2, g0, g1, g2⟩ := N
        (refine wpAnyE_free (i := 11) (o := ?_) ?_ (by kernel_rfl) (by kernel_rfl) (fun K hK => ?_); rotate_left; (focus ((simp only [List.getElem?_toArray, List.getElem?_cons_succ, List.getElem?_cons_zero]; exact rfl))); go_simp; refine hK.out _ _ ?_; clear hK K; (try simp only [Act.put, List.setIfInBounds_toArray, List.set_cons_zero, List.set_cons_succ]))
        ((refine wpAnyE_pure (i := 12) (oi := ?_) (v := ?_) ?_ (by kernel_rfl) ?_ ?_ ?_ ?_; rotate_left 2; (focus ((simp only [List.getElem?_toArray, List.getElem?_cons_succ, List.getElem?_cons_zero]; exact rfl))); (focus (exact fun _ _ _ h => h)); (focus (refine Or.inl ⟨by rfl, ?_⟩; intro w hSw; clear hSw; (first | (go_simp; done) | (go_simp; with_reducible rfl)))); (focus (first | exact (fun _ => by assumption) | (intro hlst; exact absurd hlst (by kernel_rfl)) | (intro hlst; cases hlst))); (try simp only [Act.put, List.setIfInBounds_toArray, List.set_cons_zero, List.set_cons_succ])))
        refine wpAnyE_done (by kernel_rfl) ?_ _
        go_wp2_with fail
        go_meet
        refine ⟨nb, _, _, _, _, _, _, _, rfl, rfl, ((HN.out.set0 _).set1 _).set2 _, ?_, (by repeat (first | with_reducible exact Ext.refl _ | with_reducible assumption | with_reducible apply Ext.drewN | with_reducible apply Ext.drew | with_reducible apply Ext.alloc | ((with_reducible refine Ext.set ?_ ?_ _); rotate_left; first | omega | (simp; omega)) | (with_reducible refine Ext.trans ?_ (by with_reducible assumption))))⟩
        exact NumV.ext ⟨z1, zc, z2, zd, rfl, k1, k2⟩ (((HEA.out.set hnw _).set hnw _).set hnw _)
      · go_simp
        have EA : Ext w5 (w5.alloc (.cells #[.bool false, .slice none 0 0, .slice none 0 0] 72)) := (by repeat (first | with_reducible exact Ext.refl _ | with_reducible assumption | with_reducible apply Ext.drewN | with_reducible apply Ext.drew | with_reducible apply Ext.alloc | ((with_reducible refine Ext.set ?_ ?_ _); rotate_left; first | omega | (simp; omega)) | (with_reducible refine Ext.trans ?_ (by with_reducible assumption))))
        have N : Num3 w5.heap.size (w5.alloc (.cells #[.bool false, .slice none 0 0, .slice none 0 0] 72)) (.bool false) (.slice none 0 0) (.slice none 0 0) := ⟨by go_simp, by go_simp, by go_simp, by go_simp, by go_simp, by go_simp⟩
        have hSA : (w5.alloc (.cells #[.bool false, .slice none 0 0, .slice none 0 0] 72)).cell? ⟨xb, 0, none⟩ = some (.bool s1) ∧ (w5.alloc (.cells #[.bool false, .slice none 0 0, .slice none 0 0] 72)).cell? ⟨xb, 1, none⟩ = some (.slice ta tn tc) ∧ (w5.alloc (.cells #[.bool false, .slice none 0 0, .slice none 0 0] 72)).cell? ⟨xb, 2, none⟩ = some (.slice ba bn bc) ∧ (w5.alloc (.cells #[.bool false, .slice none 0 0, .slice none 0 0] 72)).cell? ⟨yb, 0, none⟩ = some (.bool s2) ∧ (w5.alloc (.cells #[.bool false, .slice none 0 0, .slice none 0 0] 72)).cell? ⟨yb, 1, none⟩ = some (.slice ua un uc) ∧ (w5.alloc (.cells #[.bool false, .slice none 0 0, .slice none 0 0] 72)).cell? ⟨yb, 2, none⟩ = some (.slice va vn vc) := ⟨EA.cell hS5.1, EA.cell hS5.2.1, EA.cell hS5.2.2.1, EA.cell hS5.2.2.2.1, EA.cell hS5.2.2.2.2.1, EA.cell hS5.2.2.2.2.2⟩
        refine hK.out _ _ hSA (fun hHeld => ?_)
        clear hK K hHeld hS5
        (try simp only [Act.put, List.setIfInBounds_toArray, List.set_cons_zero, List.set_cons_succ])
        obtain ⟨nb, hnb⟩ : ∃ nb, nb = w5.heap.size := ⟨_, rfl⟩
        rw [← hnb] at N ⊢
        have hww : w.heap.size ≤ nb := by have := E.size; omega
        replace E := E.trans EA
        replace HNA := Lib.hid (HNA.out.ext EA)
        replace HNB := Lib.hid (HNB.out.ext EA)
        clear EA hnb
        generalize (w5.alloc (.cells #[.bool false, .slice none 0 0, .slice none 0 0] 72)) = w5 at N hSA E HNA HNB ⊢
        (refine wpAnyE_one (i := 6) (o := ?_) ?_ (by kernel_rfl) (fun K hK => ?_); rotate_left; (focus ((simp only [List.getElem?_toArray, List.getElem?_cons_succ, List.getElem?_cons_zero]; exact rfl))); go_simp; go_at_call 137; refine (op2_any (numOf a) (numOf b) _ _ _ HNA.out HNB.out hxa hyb).mono ?_; rintro e w6 ⟨z, rfl, hz, hzn, hE⟩; obtain ⟨z1, zc, z2, zd, rfl, k1, k2⟩ := hz; go_wp2_with fail; refine hK.out _ _ ?_ (fun hHeld => ?_); rotate_left; clear hK K; (try simp only [Act.put, List.setIfInBounds_toArray, List.set_cons_zero, List.set_cons_succ]))
        rotate_left
        · exact ⟨hE.cell hSA.1, hE.cell hSA.2.1, hE.cell hSA.2.2.1, hE.cell hSA.2.2.2.1, hE.cell hSA.2.2.2.2.1, hE.cell hSA.2.2.2.2.2⟩
        have N6 := N.ext hE
        have hnl : nb < w5.heap.size := cell_lt N.c0
        have E6 := E.trans hE
        clear hSA N E hE
        ((refine wpAnyE_pure (i := 7) (oi := ?_) (v := ?_) ?_ (by kernel_rfl) ?_ ?_ ?_ ?_; rotate_left 2; (focus ((simp only [List.getElem?_toArray, List.getElem?_cons_succ, List.getElem?_cons_zero]; exact rfl))); (focus (exact fun _ _ _ h => h)); (focus (refine Or.inl ⟨by rfl, ?_⟩; intro w hSw; clear hSw; (first | (go_simp; done) | (go_simp; with_reducible rfl)))); (focus (first | exact (fun _ => by assumption) | (intro hlst; exact absurd hlst (by kernel_rfl)) | (intro hlst; cases hlst))); (try simp only [Act.put, List.setIfInBounds_toArray, List.set_cons_zero, List.set_cons_succ])); (refine wpAnyE_pure (i := 8) (oi := ?_) (v := ?_) ?_ (by kernel_rfl) ?_ ?_ ?_ ?_; rotate_left 2; (focus ((simp only [List.getElem?_toArray, List.getElem?_cons_succ, List.getElem?_cons_zero]; exact rfl))); (focus (exact fun _ _ _ h => h)); (focus (refine Or.inl ⟨by rfl, ?_⟩; intro w hSw; clear hSw; (first | (go_simp; done) | (go_simp; with_reducible rfl)))); (focus (first | exact (fun _ => by assumption) | (intro hlst; exact absurd hlst (by kernel_rfl)) | (intro hlst; cases hlst))); (try simp only [Act.put, List.setIfInBounds_toArray, List.set_cons_zero, List.set_cons_succ])); (refine wpAnyE_pure (i := 9) (oi := ?_) (v := ?_) ?_ (by kernel_rfl) ?_ ?_ ?_ ?_; rotate_left 2; (focus ((simp only [List.getElem?_toArray, List.getElem?_cons_succ, List.getElem?_cons_zero]; exact rfl))); (focus (exact fun _ _ _ h => h)); (focus (refine Or.inl ⟨by rfl, ?_⟩; intro w hSw; clear hSw; (first | (go_simp; done) | (go_simp; with_reducible rfl)))); (focus (first | exact (fun _ => by assumption) | (intro hlst; exact absurd hlst (by kernel_rfl)) | (intro hlst; cases hlst))); (try simp only [Act.put, List.setIfInBounds_toArray, List.set_cons_zero, List.set_cons_succ])))
        clear hHeld
        have HN := Lib.hid N6
        obtain ⟨x0, x1, x2, g0, g1, g2⟩ := N6
        (refine wpAnyE_free (i := 11) (o := ?_) ?_ (by kernel_rfl) (by kernel_rfl) (fun K hK => ?_); rotate_left; (focus ((simp only [List.getElem?_toArray, List.getElem?_cons_succ, List.getElem?_cons_zero]; exact rfl))); go_simp; refine hK.out _ _ ?_; clear hK K; (try simp only [Act.put, List.setIfInBounds_toArray, List.set_cons_zero, List.set_cons_succ]))
        ((refine wpAnyE_pure (i := 12) (oi := ?_) (v := ?_) ?_ (by kernel_rfl) ?_ ?_ ?_ ?_; rotate_left 2; (focus ((simp only [List.getElem?_toArray, List.getElem?_cons_succ, List.getElem?_cons_zero]; exact rfl))); (focus (exact fun _ _ _ h => h)); (focus (refine Or.inl ⟨by rfl, ?_⟩; intro w hSw; clear hSw; (first | (go_simp; done) | (go_simp; with_reducible rfl)))); (focus (first | exact (fun _ => by assumption) | (intro hlst; exact absurd hlst (by kernel_rfl)) | (intro hlst; cases hlst))); (try simp only [Act.put, List.setIfInBounds_toArray, List.set_cons_zero, List.set_cons_succ])))
        refine wpAnyE_done (by kernel_rfl) ?_ _
        go_wp2_with fail
        go_meet
        refine ⟨nb, _, _, _, _, _, _, _, rfl, rfl, ((HN.out.set0 _).set1 _).set2 _, ?_, (by repeat (first | with_reducible exact Ext.refl _ | with_reducible assumption | with_reducible apply Ext.drewN | with_reducible apply Ext.drew | with_reducible apply Ext.alloc | ((with_reducible refine Ext.set ?_ ?_ _); rotate_left; first | omega | (simp; omega)) | (with_reducible refine Ext.trans ?_ (by with_reducible assumption))))⟩
        exact NumV.set (NumV.set (NumV.set ⟨z1, zc, z2, zd, rfl, k1, k2⟩ hzn hnl) hzn hnl) hzn hnl
    · go_simp
      have EA : Ext W4 (W4.alloc (.cells #[.bool false, .slice none 0 0, .slice none 0 0] 72)) := (by repeat (first | with_reducible exact Ext.refl _ | with_reducible assumption | with_reducible apply Ext.drewN | with_reducible apply Ext.drew | with_reducible apply Ext.alloc | ((with_reducible refine Ext.set ?_ ?_ _); rotate_left; first | omega | (simp; omega)) | (with_reducible refine Ext.trans ?_ (by with_reducible assumption))))
      have N : Num3 W4.heap.size (W4.alloc (.cells #[.bool false, .slice none 0 0, .slice none 0 0] 72)) (.bool false) (.slice none 0 0) (.slice none 0 0) := ⟨by go_simp, by go_simp, by go_simp, by go_simp, by go_simp, by go_simp⟩
      have hSA : (W4.alloc (.cells #[.bool false, .slice none 0 0, .slice none 0 0] 72)).cell? ⟨xb, 0, none⟩ = some (.bool s1) ∧ (W4.alloc (.cells #[.bool false, .slice none 0 0, .slice none 0 0] 72)).cell? ⟨xb, 1, none⟩ = some (.slice ta tn tc) ∧ (W4.alloc (.cells #[.bool false, .slice none 0 0, .slice none 0 0] 72)).cell? ⟨xb, 2, none⟩ = some (.slice ba bn bc) ∧ (W4.alloc (.cells #[.bool false, .slice none 0 0, .slice none 0 0] 72)).cell? ⟨yb, 0, none⟩ = some (.bool s2) ∧ (W4.alloc (.cells #[.bool false, .slice none 0 0, .slice none 0 0] 72)).cell? ⟨yb, 1, none⟩ = some (.slice ua un uc) ∧ (W4.alloc (.cells #[.bool false, .slice none 0 0, .slice none 0 0] 72)).cell? ⟨yb, 2, none⟩ = some (.slice va vn vc) := ⟨EA.cell hS.1, EA.cell hS.2.1, EA.cell hS.2.2.1, EA.cell hS.2.2.2.1, EA.cell hS.2.2.2.2.1, EA.cell hS.2.2.2.2.2⟩
      refine hK.out _ _ hSA (fun hHeld => ?_)
      clear hK K hHeld hS
      (try simp only [Act.put, List.setIfInBounds_toArray, List.set_cons_zero, List.set_cons_succ])
      obtain ⟨nb, hnb⟩ : ∃ nb, nb = W4.heap.size := ⟨_, rfl⟩
      rw [← hnb] at N ⊢
      have hww : w.heap.size ≤ nb := by have := E.size; omega
      replace E := E.trans EA
      replace HNA := Lib.hid (HNA.out.ext EA)
      replace HNB := Lib.hid (HNB.out.ext EA)
      clear EA hnb
      generalize (W4.alloc (.cells #[.bool false, .slice none 0 0, .slice none 0 0] 72)) = W5 at N hSA E HNA HNB ⊢
      (refine wpAnyE_one (i := 0) (o := ?_) ?_ (by kernel_rfl) (fun K hK => ?_); rotate_left; (focus ((simp only [List.getElem?_toArray, List.getElem?_cons_zero]; exact rfl))); go_simp; go_at_call 107; refine (operations_any _).mono ?_; rintro e w5 ⟨rfl, hE⟩; go_wp2_with fail; refine hK.out _ _ ?_ (fun hHeld => ?_); rotate_left; clear hK K; (try simp only [Act.put, List.setIfInBounds_toArray, List.set_cons_zero, List.set_cons_succ]))
      rotate_left
      · exact ⟨hE.cell hSA.1, hE.cell hSA.2.1, hE.cell hSA.2.2.1, hE.cell hSA.2.2.2.1, hE.cell hSA.2.2.2.2.1, hE.cell hSA.2.2.2.2.2⟩
      replace hSA : w5.cell? ⟨xb, 0, none⟩ = some (.bool s1) ∧ w5.cell? ⟨xb, 1, none⟩ = some (.slice ta tn tc) ∧ w5.cell? ⟨xb, 2, none⟩ = some (.slice ba bn bc) ∧ w5.cell? ⟨yb, 0, none⟩ = some (.bool s2) ∧ w5.cell? ⟨yb, 1, none⟩ = some (.slice ua un uc) ∧ w5.cell? ⟨yb, 2, none⟩ = some (.slice va vn vc) := ⟨hE.cell hSA.1, hE.cell hSA.2.1, hE.cell hSA.2.2.1, hE.cell hSA.2.2.2.1, hE.cell hSA.2.2.2.2.1, hE.cell hSA.2.2.2.2.2⟩
      replace N := N.ext hE
      replace E := E.trans hE
      replace HNA := Lib.hid (HNA.out.ext hE)
      replace HNB := Lib.hid (HNB.out.ext hE)
      clear hE hHeld
      ((refine wpAnyE_take (i := 2) (oi := ?_) (v := ?_) ?_ (by kernel_rfl) ?_ ?_ (by assumption) ?_; rotate_left 2; (focus ((simp only [List.getElem?_toArray, List.getElem?_cons_succ, List.getElem?_cons_zero]; exact rfl))); (focus (exact fun _ _ _ h => h)); (focus (refine Or.inl ⟨by rfl, ?_⟩; intro w hSw; (try dsimp only at hSw); (first | (go_simp; done) | (go_simp; with_reducible rfl)))); (try simp only [Act.put, List.setIfInBounds_toArray, List.set_cons_zero, List.set_cons_succ])); (refine wpAnyE_take (i := 3) (oi := ?_) (v := ?_) ?_ (by kernel_rfl) ?_ ?_ (by assumption) ?_; rotate_left 2; (focus ((simp only [List.getElem?_toArray, List.getElem?_cons_succ, List.getElem?_cons_zero]; exact rfl))); (focus (exact fun _ _ _ h => h)); (focus (refine Or.inl ⟨by rfl, ?_⟩; intro w hSw; (try dsimp only at hSw); (first | (go_simp; done) | (go_simp; with_reducible rfl)))); (try simp only [Act.put, List.setIfInBounds_toArray, List.set_cons_zero, List.set_cons_succ])))
      (refine wpAnyE_one (i := 6) (o := ?_) ?_ (by kernel_rfl) (fun K hK => ?_); rotate_left; (focus ((simp only [List.getElem?_toArray, List.getElem?_cons_succ, List.getElem?_cons_zero]; exact rfl))); go_simp; go_at_call 137; refine (op2_any (numOf a) (numOf b) _ _ _ HNA.out HNB.out hxa hyb).mono ?_; rintro e w6 ⟨z, rfl, hz, hzn, hE⟩; obtain ⟨z1, zc, z2, zd, rfl, k1, k2⟩ := hz; go_wp2_with fail; refine hK.out _ _ ?_ (fun hHeld => ?_); rotate_left; clear hK K; (try simp only [Act.put, List.setIfInBounds_toArray, List.set_cons_zero, List.set_cons_succ]))
      rotate_left
      · exact ⟨hE.cell hSA.1, hE.cell hSA.2.1, hE.cell hSA.2.2.1, hE.cell hSA.2.2.2.1, hE.cell hSA.2.2.2.2.1, hE.cell hSA.2.2.2.2.2⟩
      have N6 := N.ext hE
      have hnl : nb < w5.heap.size := cell_lt N.c0
      have E6 := E.trans hE
      clear hSA N E hE
      ((refine wpAnyE_pure (i := 7) (oi := ?_) (v := ?_) ?_ (by kernel_rfl) ?_ ?_ ?_ ?_; rotate_left 2; (focus ((simp only [List.getElem?_toArray, List.getElem?_cons_succ, List.getElem?_cons_zero]; exact rfl))); (focus (exact fun _ _ _ h => h)); (focus (refine Or.inl ⟨by rfl, ?_⟩; intro w hSw; clear hSw; (first | (go_simp; done) | (go_simp; with_reducible rfl)))); (focus (first | exact (fun _ => by assumption) | (intro hlst; exact absurd hlst (by kernel_rfl)) | (intro hlst; cases hlst))); (try simp only [Act.put, List.setIfInBounds_toArray, List.set_cons_zero, List.set_cons_succ])); (refine wpAnyE_pure (i := 8) (oi := ?_) (v := ?_) ?_ (by kernel_rfl) ?_ ?_ ?_ ?_; rotate_left 2; (focus ((simp only [List.getElem?_toArray, List.getElem?_cons_succ, List.getElem?_cons_zero]; exact rfl))); (focus (exact fun _ _ _ h => h)); (focus (refine Or.inl ⟨by rfl, ?_⟩; intro w hSw; clear hSw; (first | (go_simp; done) | (go_simp; with_reducible rfl)))); (focus (first | exact (fun _ => by assumption) | (intro hlst; exact absurd hlst (by kernel_rfl)) | (intro hlst; cases hlst))); (try simp only [Act.put, List.setIfInBounds_toArray, List.set_cons_zero, List.set_cons_succ])); (refine wpAnyE_pure (i := 9) (oi := ?_) (v := ?_) ?_ (by kernel_rfl) ?_ ?_ ?_ ?_; rotate_left 2; (focus ((simp only [List.getElem?_toArray, List.getElem?_cons_succ, List.getElem?_cons_zero]; exact rfl))); (focus (exact fun _ _ _ h => h)); (focus (refine Or.inl ⟨by rfl, ?_⟩; intro w hSw; clear hSw; (first | (go_simp; done) | (go_simp; with_reducible rfl)))); (focus (first | exact (fun _ => by assumption) | (intro hlst; exact absurd hlst (by kernel_rfl)) | (intro hlst; cases hlst))); (try simp only [Act.put, List.setIfInBounds_toArray, List.set_cons_zero, List.set_cons_succ])))
      clear hHeld
      have HN := Lib.hid N6
      obtain ⟨x0, x1, x2, g0, g1, g2⟩ := N6
      (refine wpAnyE_free (i := 11) (o := ?_) ?_ (by kernel_rfl) (by kernel_rfl) (fun K hK => ?_); rotate_left; (focus ((simp only [List.getElem?_toArray, List.getElem?_cons_succ, List.getElem?_cons_zero]; exact rfl))); go_simp; refine hK.out _ _ ?_; clear hK K; (try simp only [Act.put, List.setIfInBounds_toArray, List.set_cons_zero, List.set_cons_succ]))
      ((refine wpAnyE_pure (i := 12) (oi := ?_) (v := ?_) ?_ (by kernel_rfl) ?_ ?_ ?_ ?_; rotate_left 2; (focus ((simp only [List.getElem?_toArray, List.getElem?_cons_succ, List.getElem?_cons_zero]; exact rfl))); (focus (exact fun _ _ _ h => h)); (focus (refine Or.inl ⟨by rfl, ?_⟩; intro w hSw; clear hSw; (first | (go_simp; done) | (go_simp; with_reducible rfl)))); (focus (first | exact (fun _ => by assumption) | (intro hlst; exact absurd hlst (by kernel_rfl)) | (intro hlst; cases hlst))); (try simp only [Act.put, List.setIfInBounds_toArray, List.set_cons_zero, List.set_cons_succ])))
      refine wpAnyE_done (by kernel_rfl) ?_ _
      go_wp2_with fail
      go_meet
      refine ⟨nb, _, _, _, _, _, _, _, rfl, rfl, ((HN.out.set0 _).set1 _).set2 _, ?_, (by repeat (first | with_reducible exact Ext.refl _ | with_reducible assumption | with_reducible apply Ext.drewN | with_reducible apply Ext.drew | with_reducible apply Ext.alloc | ((with_reducible refine Ext.set ?_ ?_ _); rotate_left; first | omega | (simp; omega)) | (with_reducible refine Ext.trans ?_ (by with_reducible assumption))))⟩
      exact NumV.set (NumV.set (NumV.set ⟨z1, zc, z2, zd, rfl, k1, k2⟩ hzn hnl) hzn hnl) hzn hnl
  case rest =>
    obtain ⟨nb, z0, z1, zn, zc, z2, zm, zd, rfl, rfl, N, HZ, E⟩ := hcut
    have ka := (numOf_len HEA.out).2
    have kb := (numOf_len HEB.out).2
    have hval : valQ (mulN (numOf a) (numOf b)) = fracQ a * fracQ b := (mulN_val _ _).trans (by rw [numOf_val, numOf_val])
    have hden : (mulN (numOf a) (numOf b)).2.2 ≠ 0 := Nat.mul_ne_zero ka kb
    have hlen := mulN_len hxa hyb
    have HRR := Lib.hid (HRES.out.2.2 HEA.out HEB.out)
    generalize mulN (numOf a) (numOf b) = SN at *
    have HW := Lib.hid (written_any SN.1 SN.2.1 SN.2.2 _ _ HZ.out hden (HG.out.ext E) hlen.1 hlen.2)
    have HV := Lib.hid (show numQ SN.1 SN.2.1 SN.2.2 = fracQ a * fracQ b from hval)
    obtain ⟨x0, x1, x2, _, _, _⟩ := N.out
    clear X Y HNA HNB HRES HZ N hval hden hlen ka kb hxa hyb
    go_wp2_with (go_at_call 54; refine HW.out.mono ?_; rintro e w9 ⟨rfl, hE⟩)
    go_ret2
    exact ⟨by rw [HRR.out, HV.out]; rfl, E.trans hE⟩
end Go.Proofs.YtpfanpkinlklnaaGreatDoor
