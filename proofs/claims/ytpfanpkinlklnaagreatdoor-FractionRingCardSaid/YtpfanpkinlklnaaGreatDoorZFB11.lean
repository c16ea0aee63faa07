/- Steps of the proof: FCpt3, FApi, FFloor, FCeilP, FAwk, FGiv. No conditions. -/
import Derived.Test.YtpfanpkinlklnaaGreatDoorCards
import Derived.Test.YtpfanpkinlklnaaGreatDoorTie
import Derived.WalkKit
import Derived.ProofKit
import Derived.OpenShut
import Derived.Deep.DeepHandedRow
import Derived.Lib.LaidTab
import Derived.LaidSub
import Derived.Stop.LaidErr
import Derived.MakeChecks
import Derived.Test.YtpfanpkinlklnaaGreatDoorZFB1
import Derived.Test.YtpfanpkinlklnaaGreatDoorZFB2
import Derived.Test.YtpfanpkinlklnaaGreatDoorZFB3
import Derived.Test.YtpfanpkinlklnaaGreatDoorZFB4
import Derived.Test.YtpfanpkinlklnaaGreatDoorZFB5
import Derived.Test.YtpfanpkinlklnaaGreatDoorZFB6
import Derived.Test.YtpfanpkinlklnaaGreatDoorZFB7
import Derived.Test.YtpfanpkinlklnaaGreatDoorZFB8
import Derived.Test.YtpfanpkinlklnaaGreatDoorZFB9
import Derived.Test.YtpfanpkinlklnaaGreatDoorZFB10
/- A computation of two texts: operation 3. (Printed by gencomp.py.) -/
namespace Go.Proofs.YtpfanpkinlklnaaGreatDoor
open Go.RowKit

set_option maxHeartbeats 16000000 in
set_option maxRecDepth 100000 in
theorem computed3_any (a b : Txt) (w : World) (hG : Glob w) (ha : a.length ≤ 400) (hb : b.length ≤ 400) :
    Calls Tryz.prog 69 #[.int .i64 3, txt a, txt b] w (ResPost (divS a b) w) := by
  have HG := Lib.hid hG
  have HPA := Lib.hid (fun W (hW : Ext w W) => parsed_any a W (hG.ext hW) ha)
  have HPB := Lib.hid (fun W (hW : Ext w W) => parsed_any b W (hG.ext hW) hb)
  have HRES := Lib.hid (@div_res a b)
  clear hG
  go_enter Tryz.func69, Tryz.ntmps69
  go_wp2_with fail
  refine (HPA.out _ (Ext.refl _)).mono ?_
  rintro e w1 ⟨v1, rfl, ⟨s1, ta, tn, tc, ba, bn, bc, rfl⟩, hn1, hE⟩
  have HN1 := Lib.hid hn1
  clear hn1 HPA
  by_cases ea : fracE a = 0
  rotate_left
  · have HR := Lib.hid (HRES.out.1 ea)
    have hne : (((fracE a : Nat) : Int) != 0) = true := by rw [bne_iff_ne]; omega
    clear HN1 HPB HRES
    generalize fracE a = n at *
    go_wp2_with fail
    go_ret2
    exact ⟨by rw [HR.out]; rfl, (by repeat (first | with_reducible exact Ext.refl _ | with_reducible assumption | with_reducible apply Ext.drewN | with_reducible apply Ext.drew | with_reducible apply Ext.alloc | ((with_reducible refine Ext.set ?_ ?_ _); rotate_left; first | omega | (simp; omega)) | (with_reducible refine Ext.trans ?_ (by with_reducible assumption))))⟩
  have HNA := Lib.hid (HN1.out ea)
  rw [ea]
  have HEA := Lib.hid ea
  clear ea HN1
  have EV : Ext w1 (w1.alloc (.cells #[.bool s1, .slice ta tn tc, .slice ba bn bc] 72)) := (by repeat (first | with_reducible exact Ext.refl _ | with_reducible assumption | with_reducible apply Ext.drewN | with_reducible apply Ext.drew | with_reducible apply Ext.alloc | ((with_reducible refine Ext.set ?_ ?_ _); rotate_left; first | omega | (simp; omega)) | (with_reducible refine Ext.trans ?_ (by with_reducible assumption))))
  have X : Num3 w1.heap.size (w1.alloc (.cells #[.bool s1, .slice ta tn tc, .slice ba bn bc] 72)) (.bool s1) (.slice ta tn tc) (.slice ba bn bc) := ⟨by go_simp, by go_simp, by go_simp, by go_simp, by go_simp, by go_simp⟩
  have E := hE.trans EV
  replace HNA := Lib.hid (HNA.out.ext EV)
  clear EV hE
  go_wp2_with fail
  obtain ⟨xb, hxb⟩ : ∃ xb, xb = w1.heap.size := ⟨_, rfl⟩
  rw [← hxb] at X ⊢
  clear hxb
  generalize (w1.alloc (.cells #[.bool s1, .slice ta tn tc, .slice ba bn bc] 72)) = W1 at X E HNA ⊢
  refine (HPB.out _ E).mono ?_
  rintro e w3 ⟨v2, rfl, ⟨s2, ua, un, uc, va, vn, vc, rfl⟩, hn2, hE⟩
  replace X := X.ext hE
  replace E := E.trans hE
  replace HNA := Lib.hid (HNA.out.ext hE)
  have HN2 := Lib.hid hn2
  clear hn2 HPB hE
  by_cases eb : fracE b = 0
  rotate_left
  · have HR := Lib.hid (HRES.out.2.1 HEA.out eb)
    have hne : (((fracE b : Nat) : Int) != 0) = true := by rw [bne_iff_ne]; omega
    clear HN2 HRES HEA
    generalize fracE b = n at *
    go_wp2_with fail
    go_ret2
    exact ⟨by rw [HR.out]; rfl, (by repeat (first | with_reducible exact Ext.refl _ | with_reducible assumption | with_reducible apply Ext.drewN | with_reducible apply Ext.drew | with_reducible apply Ext.alloc | ((with_reducible refine Ext.set ?_ ?_ _); rotate_left; first | omega | (simp; omega)) | (with_reducible refine Ext.trans ?_ (by with_reducible assumption))))⟩
  have HNB := Lib.hid (HN2.out eb)
  rw [eb]
  have HEB := Lib.hid eb
  clear eb HN2
  have EV : Ext w3 (w3.alloc (.cells #[.bool s2, .slice ua un uc, .slice va vn vc] 72)) := (by repeat (first | with_reducible exact Ext.refl _ | with_reducible assumption | with_reducible apply Ext.drewN | with_reducible apply Ext.drew | with_reducible apply Ext.alloc | ((with_reducible refine Ext.set ?_ ?_ _); rotate_left; first | omega | (simp; omega)) | (with_reducible refine Ext.trans ?_ (by with_reducible assumption))))
  have Y : Num3 w3.heap.size (w3.alloc (.cells #[.bool s2, .slice ua un uc, .slice va vn vc] 72)) (.bool s2) (.slice ua un uc) (.slice va vn vc) := ⟨by go_simp, by go_simp, by go_simp, by go_simp, by go_simp, by go_simp⟩
  replace X := X.ext EV
  replace E := E.trans EV
  replace HNA := Lib.hid (HNA.out.ext EV)
  replace HNB := Lib.hid (HNB.out.ext EV)
  clear EV
  go_wp2_with fail
  obtain ⟨yb, hyb⟩ : ∃ yb, yb = w3.heap.size := ⟨_, rfl⟩
  rw [← hyb] at Y ⊢
  clear hyb
  generalize (w3.alloc (.cells #[.bool s2, .slice ua un uc, .slice va vn vc] 72)) = W3 at X Y E HNA HNB ⊢
  have hix := op_index3
  have hfi := op_field
  have hxa := (numOf_len HEA.out).1
  have hyb := (numOf_len HEB.out).1
  by_cases hp0 : (numOf b).2.1 = 0
  · have HR : Hid (divS a b = ([], 10)) := (HRES.out.2.2 HEA.out HEB.out).trans (by rw [if_pos ((frac_zero HEB.out).2 hp0)])
    go_cut [11, 9] (fun n ev wx => ∃ nb z0 z1 zn zc z2 zm zd, n = .pointer (some ⟨nb, 0, none⟩) ∧ ev = .int .i64 10 ∧ Hid (Num3 nb wx (.bool z0) (.slice z1 zn zc) (.slice z2 zm zd)) ∧ Hid (True) ∧ Ext w wx)
    case first =>
      have hdr : Ext W3 W3.drew := (by repeat (first | with_reducible exact Ext.refl _ | with_reducible assumption | with_reducible apply Ext.drewN | with_reducible apply Ext.drew | with_reducible apply Ext.alloc | ((with_reducible refine Ext.set ?_ ?_ _); rotate_left; first | omega | (simp; omega)) | (with_reducible refine Ext.trans ?_ (by with_reducible assumption))))
      replace X := X.ext hdr
      replace Y := Y.ext hdr
      replace E := E.trans hdr
      replace HNA := Lib.hid (HNA.out.ext hdr)
      replace HNB := Lib.hid (HNB.out.ext hdr)
      have hS : W3.drew.cell? ⟨xb, 0, none⟩ = some (.bool s1) ∧ W3.drew.cell? ⟨xb, 1, none⟩ = some (.slice ta tn tc) ∧ W3.drew.cell? ⟨xb, 2, none⟩ = some (.slice ba bn bc) ∧ W3.drew.cell? ⟨yb, 0, none⟩ = some (.bool s2) ∧ W3.drew.cell? ⟨yb, 1, none⟩ = some (.slice ua un uc) ∧ W3.drew.cell? ⟨yb, 2, none⟩ = some (.slice va vn vc) := ⟨X.c0, X.c1, X.c2, Y.c0, Y.c1, Y.c2⟩
      refine wp_region_heldE 11 (fun w' => w'.cell? ⟨xb, 0, none⟩ = some (.bool s1) ∧ w'.cell? ⟨xb, 1, none⟩ = some (.slice ta tn tc) ∧ w'.cell? ⟨xb, 2, none⟩ = some (.slice ba bn bc) ∧ w'.cell? ⟨yb, 0, none⟩ = some (.bool s2) ∧ w'.cell? ⟨yb, 1, none⟩ = some (.slice ua un uc) ∧ w'.cell? ⟨yb, 2, none⟩ = some (.slice va vn vc)) (by kernel_rfl) ?_
      clear hdr X Y
      generalize W3.drew = W4 at E HNA HNB hS ⊢
      ((refine wpAnyE_take (i := 1) (oi := ?_) (v := ?_) ?_ (by kernel_rfl) ?_ ?_ (by assumption) ?_; rotate_left 2; (focus ((simp only [List.getElem?_toArray, List.getElem?_cons_succ, List.getElem?_cons_zero]; exact rfl))); (focus (exact fun _ _ _ h => h)); (focus (refine Or.inl ⟨by rfl, ?_⟩; intro w hSw; (try dsimp only at hSw); (first | (go_simp; done) | (go_simp; with_reducible rfl)))); (try simp only [Act.put, List.setIfInBounds_toArray, List.set_cons_zero, List.set_cons_succ])); (refine wpAnyE_take (i := 4) (oi := ?_) (v := ?_) ?_ (by kernel_rfl) ?_ ?_ (by assumption) ?_; rotate_left 2; (focus ((simp only [List.getElem?_toArray, List.getElem?_cons_succ, List.getElem?_cons_zero]; exact rfl))); (focus (exact fun _ _ _ h => h)); (focus (refine Or.inl ⟨by rfl, ?_⟩; intro w hSw; (try dsimp only at hSw); (first | (go_simp; done) | (go_simp; with_reducible rfl)))); (try simp only [Act.put, List.setIfInBounds_toArray, List.set_cons_zero, List.set_cons_succ])); (refine wpAnyE_take (i := 5) (oi := ?_) (v := ?_) ?_ (by kernel_rfl) ?_ ?_ (by assumption) ?_; rotate_left 2; (focus ((simp only [List.getElem?_toArray, List.getElem?_cons_succ, List.getElem?_cons_zero]; exact rfl))); (focus (exact fun _ _ _ h => h)); (focus (refine Or.inl ⟨by rfl, ?_⟩; intro w hSw; (try dsimp only at hSw); (first | (go_simp; done) | (go_simp; with_reducible rfl)))); (try simp only [Act.put, List.setIfInBounds_toArray, List.set_cons_zero, List.set_cons_succ])))
      refine wpAnyE_two (i := 0) (j := 10) (o := ?_) (p := ?_) ?_ ?_ (by kernel_rfl) (fun K hK => ?_) (fun K hK => ?_)
      rotate_left 2
      · simp only [List.getElem?_toArray, List.getElem?_cons_zero]; exact rfl
      · simp only [List.getElem?_toArray, List.getElem?_cons_succ, List.getElem?_cons_zero]; exact rfl
      · go_simp
        go_at_call 107
        refine (operations_any _).mono ?_
        rintro e w5 ⟨rfl, hE⟩
        go_wp2_with fail
        have hS5 : w5.cell? ⟨xb, 0, none⟩ = some (.bool s1) ∧ w5.cell? ⟨xb, 1, none⟩ = some (.slice ta tn tc) ∧ w5.cell? ⟨xb, 2, none⟩ = some (.slice ba bn bc) ∧ w5.cell? ⟨yb, 0, none⟩ = some (.bool s2) ∧ w5.cell? ⟨yb, 1, none⟩ = some (.slice ua un uc) ∧ w5.cell? ⟨yb, 2, none⟩ = some (.slice va vn vc) := ⟨hE.cell hS.1, hE.cell hS.2.1, hE.cell hS.2.2.1, hE.cell hS.2.2.2.1, hE.cell hS.2.2.2.2.1, hE.cell hS.2.2.2.2.2⟩
        refine hK.out _ _ hS5 (fun hHeld => ?_)
        clear hK K hHeld
        (try simp only [Act.put, List.setIfInBounds_toArray, List.set_cons_zero, List.set_cons_succ])
        replace E := E.trans hE
        replace HNA := Lib.hid (HNA.out.ext hE)
        replace HNB := Lib.hid (HNB.out.ext hE)
        clear hE hS
        ((refine wpAnyE_take (i := 2) (oi := ?_) (v := ?_) ?_ (by kernel_rfl) ?_ ?_ (by assumption) ?_; rotate_left 2; (focus ((simp only [List.getElem?_toArray, List.getElem?_cons_succ, List.getElem?_cons_zero]; exact rfl))); (focus (exact fun _ _ _ h => h)); (focus (refine Or.inl ⟨by rfl, ?_⟩; intro w hSw; (try dsimp only at hSw); (first | (go_simp; done) | (go_simp; with_reducible rfl)))); (try simp only [Act.put, List.setIfInBounds_toArray, List.set_cons_zero, List.set_cons_succ])); (refine wpAnyE_take (i := 3) (oi := ?_) (v := ?_) ?_ (by kernel_rfl) ?_ ?_ (by assumption) ?_; rotate_left 2; (focus ((simp only [List.getElem?_toArray, List.getElem?_cons_succ, List.getElem?_cons_zero]; exact rfl))); (focus (exact fun _ _ _ h => h)); (focus (refine Or.inl ⟨by rfl, ?_⟩; intro w hSw; (try dsimp only at hSw); (first | (go_simp; done) | (go_simp; with_reducible rfl)))); (try simp only [Act.put, List.setIfInBounds_toArray, List.set_cons_zero, List.set_cons_succ])))
        refine wpAnyE_two (i := 6) (j := 10) (o := ?_) (p := ?_) ?_ ?_ (by kernel_rfl) (fun K hK => ?_) (fun K hK => ?_)
        rotate_left 2
        · simp only [List.getElem?_toArray, List.getElem?_cons_succ, List.getElem?_cons_zero]; exact rfl
        · simp only [List.getElem?_toArray, List.getElem?_cons_succ, List.getElem?_cons_zero]; exact rfl
        · go_simp
          go_at_call 138
          refine (op3_zero (numOf a) (numOf b) _ _ _ HNA.out HNB.out hp0).mono ?_; rintro e w6 ⟨rfl, hE⟩
          go_wp2_with fail
          have hS6 : w6.cell? ⟨xb, 0, none⟩ = some (.bool s1) ∧ w6.cell? ⟨xb, 1, none⟩ = some (.slice ta tn tc) ∧ w6.cell? ⟨xb, 2, none⟩ = some (.slice ba bn bc) ∧ w6.cell? ⟨yb, 0, none⟩ = some (.bool s2) ∧ w6.cell? ⟨yb, 1, none⟩ = some (.slice ua un uc) ∧ w6.cell? ⟨yb, 2, none⟩ = some (.slice va vn vc) := ⟨hE.cell hS5.1, hE.cell hS5.2.1, hE.cell hS5.2.2.1, hE.cell hS5.2.2.2.1, hE.cell hS5.2.2.2.2.1, hE.cell hS5.2.2.2.2.2⟩
          refine hK.out _ _ hS6 (fun hHeld => ?_)
          clear hK K hHeld hS5
          (try simp only [Act.put, List.setIfInBounds_toArray, List.set_cons_zero, List.set_cons_succ])
          ((refine wpAnyE_pure (i := 7) (oi := ?_) (v := ?_) ?_ (by kernel_rfl) ?_ ?_ ?_ ?_; rotate_left 2; (focus ((simp only [List.getElem?_toArray, List.getElem?_cons_succ, List.getElem?_cons_zero]; exact rfl))); (focus (exact fun _ _ _ h => h)); (focus (refine Or.inl ⟨by rfl, ?_⟩; intro w hSw; clear hSw; (first | (go_simp; done) | (go_simp; with_reducible rfl)))); (focus (first | exact (fun _ => by assumption) | (intro hlst; exact absurd hlst (by kernel_rfl)) | (intro hlst; cases hlst))); (try simp only [Act.put, List.setIfInBounds_toArray, List.set_cons_zero, List.set_cons_succ])); (refine wpAnyE_pure (i := 8) (oi := ?_) (v := ?_) ?_ (by kernel_rfl) ?_ ?_ ?_ ?_; rotate_left 2; (focus ((simp only [List.getElem?_toArray, List.getElem?_cons_succ, List.getElem?_cons_zero]; exact rfl))); (focus (exact fun _ _ _ h => h)); (focus (refine Or.inl ⟨by rfl, ?_⟩; intro w hSw; clear hSw; (first | (go_simp; done) | (go_simp; with_reducible rfl)))); (focus (first | exact (fun _ => by assumption) | (intro hlst; exact absurd hlst (by kernel_rfl)) | (intro hlst; cases hlst))); (try simp only [Act.put, List.setIfInBounds_toArray, List.set_cons_zero, List.set_cons_succ])); (refine wpAnyE_pure (i := 9) (oi := ?_) (v := ?_) ?_ (by kernel_rfl) ?_ ?_ ?_ ?_; rotate_left 2; (focus ((simp only [List.getElem?_toArray, List.getElem?_cons_succ, List.getElem?_cons_zero]; exact rfl))); (focus (exact fun _ _ _ h => h)); (focus (refine Or.inl ⟨by rfl, ?_⟩; intro w hSw; clear hSw; (first | (go_simp; done) | (go_simp; with_reducible rfl)))); (focus (first | exact (fun _ => by assumption) | (intro hlst; exact absurd hlst (by kernel_rfl)) | (intro hlst; cases hlst))); (try simp only [Act.put, List.setIfInBounds_toArray, List.set_cons_zero, List.set_cons_succ])))
          have EA : Ext w6 (w6.alloc (.cells #[.bool false, .slice none 0 0, .slice none 0 0] 72)) := (by repeat (first | with_reducible exact Ext.refl _ | with_reducible assumption | with_reducible apply Ext.drewN | with_reducible apply Ext.drew | with_reducible apply Ext.alloc | ((with_reducible refine Ext.set ?_ ?_ _); rotate_left; first | omega | (simp; omega)) | (with_reducible refine Ext.trans ?_ (by with_reducible assumption))))
          have N : Num3 w6.heap.size (w6.alloc (.cells #[.bool false, .slice none 0 0, .slice none 0 0] 72)) (.bool false) (.slice none 0 0) (.slice none 0 0) := ⟨by go_simp, by go_simp, by go_simp, by go_simp, by go_simp, by go_simp⟩
          (refine wpAnyE_one (i := 10) (o := ?_) ?_ (by kernel_rfl) (fun K hK => ?_); rotate_left; (focus ((simp only [List.getElem?_toArray, List.getElem?_cons_succ, List.getElem?_cons_zero]; exact rfl))); go_simp; refine hK.out _ _ ?_ (fun hHeld => ?_); rotate_left; clear hK K; (try simp only [Act.put, List.setIfInBounds_toArray, List.set_cons_zero, List.set_cons_succ]))
          rotate_left
          · exact ⟨EA.cell hS6.1, EA.cell hS6.2.1, EA.cell hS6.2.2.1, EA.cell hS6.2.2.2.1, EA.cell hS6.2.2.2.2.1, EA.cell hS6.2.2.2.2.2⟩
          obtain ⟨nb, hnb⟩ : ∃ nb, nb = w6.heap.size := ⟨_, rfl⟩
          rw [← hnb] at N ⊢
          have hnw : w6.heap.size ≤ nb := by omega
          have hww : w.heap.size ≤ nb := by have := (E.trans hE).size; omega
          have E6 := (E.trans hE).trans EA
          have HEA := Lib.hid EA
          clear EA hS6 hHeld hnb E hE
          generalize (w6.alloc (.cells #[.bool false, .slice none 0 0, .slice none 0 0] 72)) = W7 at N HEA E6 ⊢
          have HN := Lib.hid N
          obtain ⟨x0, x1, x2, g0, g1, g2⟩ := N
          (refine wpAnyE_free (i := 11) (o := ?_) ?_ (by kernel_rfl) (by kernel_rfl) (fun K hK => ?_); rotate_left; (focus ((simp only [List.getElem?_toArray, List.getElem?_cons_succ, List.getElem?_cons_zero]; exact rfl))); go_simp; refine hK.out _ _ ?_; clear hK K; (try simp only [Act.put, List.setIfInBounds_toArray, List.set_cons_zero, List.set_cons_succ]))
          ((refine wpAnyE_pure (i := 12) (oi := ?_) (v := ?_) ?_ (by kernel_rfl) ?_ ?_ ?_ ?_; rotate_left 2; (focus ((simp only [List.getElem?_toArray, List.getElem?_cons_succ, List.getElem?_cons_zero]; exact rfl))); (focus (exact fun _ _ _ h => h)); (focus (refine Or.inl ⟨by rfl, ?_⟩; intro w hSw; clear hSw; (first | (go_simp; done) | (go_simp; with_reducible rfl)))); (focus (first | exact (fun _ => by assumption) | (intro hlst; exact absurd hlst (by kernel_rfl)) | (intro hlst; cases hlst))); (try simp only [Act.put, List.setIfInBounds_toArray, List.set_cons_zero, List.set_cons_succ])))
          refine wpAnyE_done (by kernel_rfl) ?_ _
          go_wp2_with fail
          go_meet
          refine ⟨nb, _, _, _, _, _, _, _, rfl, rfl, ((HN.out.set0 _).set1 _).set2 _, ?_, (by repeat (first | with_reducible exact Ext.refl _ | with_reducible assumption | with_reducible apply Ext.drewN | with_reducible apply Ext.drew | with_reducible apply Ext.alloc | ((with_reducible refine Ext.set ?_ ?_ _); rotate_left; first | omega | (simp; omega)) | (with_reducible refine Ext.trans ?_ (by with_reducible assumption))))⟩
          trivial
        · go_simp
          have EA : Ext w5 (w5.alloc (.cells #[.bool false, .slice none 0 0, .slice none 0 0] 72)) := (by repeat (first | with_reducible exact Ext.refl _ | with_reducible assumption | with_reducible apply Ext.drewN | with_reducible apply Ext.drew | with_reducible apply Ext.alloc | ((with_reducible refine Ext.set ?_ ?_ _); rotate_left; first | omega | (simp; omega)) | (with_reducible refine Ext.trans ?_ (by with_reducible assumption))))
          have N : Num3 w5.heap.size (w5.alloc (.cells #[.bool false, .slice none 0 0, .slice none 0 0] 72)) (.bool false) (.slice none 0 0) (.slice none 0 0) := ⟨by go_simp, by go_simp, by go_simp, by go_simp, by go_simp, by go_simp⟩
          have hSA : (w5.alloc (.cells #[.bool false, .slice none 0 0, .slice none 0 0] 72)).cell? ⟨xb, 0, none⟩ = some (.bool s1) ∧ (w5.alloc (.cells #[.bool false, .slice none 0 0, .slice none 0 0] 72)).cell? ⟨xb, 1, none⟩ = some (.slice ta tn tc) ∧ (w5.alloc (.cells #[.bool false, .slice none 0 0, .slice none 0 0] 72)).cell? ⟨xb, 2, none⟩ = some (.slice ba bn bc) ∧ (w5.alloc (.cells #[.bool false, .slice none 0 0, .slice none 0 0] 72)).cell? ⟨yb, 0, none⟩ = some (.bool s2) ∧ (w5.alloc (.cells #[.bool false, .slice none 0 0, .slice none 0 0] 72)).cell? ⟨yb, 1, none⟩ = some (.slice ua un uc) ∧ (w5.alloc (.cells #[.bool false, .slice none 0 0, .slice none 0 0] 72)).cell? ⟨yb, 2, none⟩ = some (.slice va vn vc) := ⟨EA.cell hS5.1, EA.cell hS5.2.1, EA.cell hS5.2.2.1, EA.cell hS5.2.2.2.1, EA.cell hS5.2.2.2.2.1, EA.cell hS5.2.2.2.2.2⟩
          refine hK.out _ _ hSA (fun hHeld => ?_)
          clear hK K hHeld hS5
          (try simp only [Act.put, List.setIfInBounds_toArray, List.set_cons_zero, List.set_cons_succ])
          obtain ⟨nb, hnb⟩ : ∃ nb, nb = w5.heap.size := ⟨_, rfl⟩
          rw [← hnb] at N ⊢
          have hww : w.heap.size ≤ nb := by have := E.size; omega
          replace E := E.trans EA
          replace HNA := Lib.hid (HNA.out.ext EA)
          replace HNB := Lib.hid (HNB.out.ext EA)
          clear EA hnb
          generalize (w5.alloc (.cells #[.bool false, .slice none 0 0, .slice none 0 0] 72)) = w5 at N hSA E HNA HNB ⊢
          (refine wpAnyE_one (i := 6) (o := ?_) ?_ (by kernel_rfl) (fun K hK => ?_); rotate_left; (focus ((simp only [List.getElem?_toArray, List.getElem?_cons_succ, List.getElem?_cons_zero]; exact rfl))); go_simp; go_at_call 138; refine (op3_zero (numOf a) (numOf b) _ _ _ HNA.out HNB.out hp0).mono ?_; rintro e w6 ⟨rfl, hE⟩; go_wp2_with fail; refine hK.out _ _ ?_ (fun hHeld => ?_); rotate_left; clear hK K; (try simp only [Act.put, List.setIfInBounds_toArray, List.set_cons_zero, List.set_cons_succ]))
          rotate_left
          · exact ⟨hE.cell hSA.1, hE.cell hSA.2.1, hE.cell hSA.2.2.1, hE.cell hSA.2.2.2.1, hE.cell hSA.2.2.2.2.1, hE.cell hSA.2.2.2.2.2⟩
          have N6 := N.ext hE
          have hnl : nb < w5.heap.size := cell_lt N.c0
          have E6 := E.trans hE
          clear hSA N E hE
          ((refine wpAnyE_pure (i := 7) (oi := ?_) (v := ?_) ?_ (by kernel_rfl) ?_ ?_ ?_ ?_; rotate_left 2; (focus ((simp only [List.getElem?_toArray, List.getElem?_cons_succ, List.getElem?_cons_zero]; exact rfl))); (focus (exact fun _ _ _ h => h)); (focus (refine Or.inl ⟨by rfl, ?_⟩; intro w hSw; clear hSw; (first | (go_simp; done) | (go_simp; with_reducible rfl)))); (focus (first | exact (fun _ => by assumption) | (intro hlst; exact absurd hlst (by kernel_rfl)) | (intro hlst; cases hlst))); (try simp only [Act.put, List.setIfInBounds_toArray, List.set_cons_zero, List.set_cons_succ])); (refine wpAnyE_pure (i := 8) (oi := ?_) (v := ?_) ?_ (by kernel_rfl) ?_ ?_ ?_ ?_; rotate_left 2; (focus ((simp only [List.getElem?_toArray, List.getElem?_cons_succ, List.getElem?_cons_zero]; exact rfl))); (focus (exact fun _ _ _ h => h)); (focus (refine Or.inl ⟨by rfl, ?_⟩; intro w hSw; clear hSw; (first | (go_simp; done) | (go_simp; with_reducible rfl)))); (focus (first | exact (fun _ => by assumption) | (intro hlst; exact absurd hlst (by kernel_rfl)) | (intro hlst; cases hlst))); (try simp only [Act.put, List.setIfInBounds_toArray, List.set_cons_zero, List.set_cons_succ])); (refine wpAnyE_pure (i := 9) (oi := ?_) (v := ?_) ?_ (by kernel_rfl) ?_ ?_ ?_ ?_; rotate_left 2; (focus ((simp only [List.getElem?_toArray, List.getElem?_cons_succ, List.getElem?_cons_zero]; exact rfl))); (focus (exact fun _ _ _ h => h)); (focus (refine Or.inl ⟨by rfl, ?_⟩; intro w hSw; clear hSw; (first | (go_simp; done) | (go_simp; with_reducible rfl)))); (focus (first | exact (fun _ => by assumption) | (intro hlst; exact absurd hlst (by kernel_rfl)) | (intro hlst; cases hlst))); (try simp only [Act.put, List.setIfInBounds_toArray, List.set_cons_zero, List.set_cons_succ])))
          clear hHeld
          have HN := Lib.hid N6
          obtain ⟨x0, x1, x2, g0, g1, g2⟩ := N6
          (refine wpAnyE_free (i := 11) (o := ?_) ?_ (by kernel_rfl) (by kernel_rfl) (fun K hK => ?_); rotate_left; (focus ((simp only [List.getElem?_toArray, List.getElem?_cons_succ, List.getElem?_cons_zero]; exact rfl))); go_simp; refine hK.out _ _ ?_; clear hK K; (try simp only [Act.put, List.setIfInBounds_toArray, List.set_cons_zero, List.set_cons_succ]))
          ((refine wpAnyE_pure (i := 12) (oi := ?_) (v := ?_) ?_ (by kernel_rfl) ?_ ?_ ?_ ?_; rotate_left 2; (focus ((simp only [List.getElem?_toArray, List.getElem?_cons_succ, List.getElem?_cons_zero]; exact rfl))); (focus (exact fun _ _ _ h => h)); (focus (refine Or.inl ⟨by rfl, ?_⟩; intro w hSw; clear hSw; (first | (go_simp; done) | (go_simp; with_reducible rfl)))); (focus (first | exact (fun _ => by assumption) | (intro hlst; exact absurd hlst (by kernel_rfl)) | (intro hlst; cases hlst))); (try simp only [Act.put, List.setIfInBounds_toArray, List.set_cons_zero, List.set_cons_succ])))
          refine wpAnyE_done (by kernel_rfl) ?_ _
          go_wp2_with fail
          go_meet
          refine ⟨nb, _, _, _, _, _, _, _, rfl, rfl, ((HN.out.set0 _).set1 _).set2 _, ?_, (by repeat (first | with_reducible exact Ext.refl _ | with_reducible assumption | with_reducible apply Ext.drewN | with_reducible apply Ext.drew | with_reducible apply Ext.alloc | ((with_reducible refine Ext.set ?_ ?_ _); rotate_left; first | omega | (simp; omega)) | (with_reducible refine Ext.trans ?_ (by with_reducible assumption))))⟩
          trivial
      · go_simp
        have EA : Ext W4 (W4.alloc (.cells #[.bool false, .slice none 0 0, .slice none 0 0] 72)) := (by repeat (first | with_reducible exact Ext.refl _ | with_reducible assumption | with_reducible apply Ext.drewN | with_reducible apply Ext.drew | with_reducible apply Ext.alloc | ((with_reducible refine Ext.set ?_ ?_ _); rotate_left; first | omega | (simp; omega)) | (with_reducible refine Ext.trans ?_ (by with_reducible assumption))))
        have N : Num3 W4.heap.size (W4.alloc (.cells #[.bool false, .slice none 0 0, .slice none 0 0] 72)) (.bool false) (.slice none 0 0) (.slice none 0 0) := ⟨by go_simp, by go_simp, by go_simp, by go_simp, by go_simp, by go_simp⟩
        have hSA : (W4.alloc (.cells #[.bool false, .slice none 0 0, .slice none 0 0] 72)).cell? ⟨xb, 0, none⟩ = some (.bool s1) ∧ (W4.alloc (.cells #[.bool false, .slice none 0 0, .slice none 0 0] 72)).cell? ⟨xb, 1, none⟩ = some (.slice ta tn tc) ∧ (W4.alloc (.cells #[.bool false, .slice none 0 0, .slice none 0 0] 72)).cell? ⟨xb, 2, none⟩ = some (.slice ba bn bc) ∧ (W4.alloc (.cells #[.bool false, .slice none 0 0, .slice none 0 0] 72)).cell? ⟨yb, 0, none⟩ = some (.bool s2) ∧ (W4.alloc (.cells #[.bool false, .slice none 0 0, .slice none 0 0] 72)).cell? ⟨yb, 1, none⟩ = some (.slice ua un uc) ∧ (W4.alloc (.cells #[.bool false, .slice none 0 0, .slice none 0 0] 72)).cell? ⟨yb, 2, none⟩ = some (.slice va vn vc) := ⟨EA.cell hS.1, EA.cell hS.2.1, EA.cell hS.2.2.1, EA.cell hS.2.2.2.1, EA.cell hS.2.2.2.2.1, EA.cell hS.2.2.2.2.2⟩
        refine hK.out _ _ hSA (fun hHeld => ?_)
        clear hK K hHeld hS
        (try simp only [Act.put, List.setIfInBounds_toArray, List.set_cons_zero, List.set_cons_succ])
        obtain ⟨nb, hnb⟩ : ∃ nb, nb = W4.heap.size := ⟨_, rfl⟩
        rw [← hnb] at N ⊢
        have hww : w.heap.size ≤ nb := by have := E.size; omega
        replace E := E.trans EA
        replace HNA := Lib.hid (HNA.out.ext EA)
        replace HNB := Lib.hid (HNB.out.ext EA)
        clear EA hnb
        generalize (W4.alloc (.cells #[.bool false, .slice none 0 0, .slice none 0 0] 72)) = W5 at N hSA E HNA HNB ⊢
        (refine wpAnyE_one (i := 0) (o := ?_) ?_ (by kernel_rfl) (fun K hK => ?_); rotate_left; (focus ((simp only [List.getElem?_toArray, List.getElem?_cons_zero]; exact rfl))); go_simp; go_at_call 107; refine (operations_any _).mono ?_; rintro e w5 ⟨rfl, hE⟩; go_wp2_with fail; refine hK.out _ _ ?_ (fun hHeld => ?_); rotate_left; clear hK K; (try simp only [Act.put, List.setIfInBounds_toArray, List.set_cons_zero, List.set_cons_succ]))
        rotate_left
        · exact ⟨hE.cell hSA.1, hE.cell hSA.2.1, hE.cell hSA.2.2.1, hE.cell hSA.2.2.2.1, hE.cell hSA.2.2.2.2.1, hE.cell hSA.2.2.2.2.2⟩
        replace hSA : w5.cell? ⟨xb, 0, none⟩ = some (.bool s1) ∧ w5.cell? ⟨xb, 1, none⟩ = some (.slice ta tn tc) ∧ w5.cell? ⟨xb, 2, none⟩ = some (.slice ba bn bc) ∧ w5.cell? ⟨yb, 0, none⟩ = some (.bool s2) ∧ w5.cell? ⟨yb, 1, none⟩ = some (.slice ua un uc) ∧ w5.cell? ⟨yb, 2, none⟩ = some (.slice va vn vc) := ⟨hE.cell hSA.1, hE.cell hSA.2.1, hE.cell hSA.2.2.1, hE.cell hSA.2.2.2.1, hE.cell hSA.2.2.2.2.1, hE.cell hSA.2.2.2.2.2⟩
        replace N := N.ext hE
        replace E := E.trans hE
        replace HNA := Lib.hid (HNA.out.ext hE)
        replace HNB := Lib.hid (HNB.out.ext hE)
        clear hE hHeld
        ((refine wpAnyE_take (i := 2) (oi := ?_) (v := ?_) ?_ (by kernel_rfl) ?_ ?_ (by assumption) ?_; rotate_left 2; (focus ((simp only [List.getElem?_toArray, List.getElem?_cons_succ, List.getElem?_cons_zero]; exact rfl))); (focus (exact fun _ _ _ h => h)); (focus (refine Or.inl ⟨by rfl, ?_⟩; intro w hSw; (try dsimp only at hSw); (first | (go_simp; done) | (go_simp; with_reducible rfl)))); (try simp only [Act.put, List.setIfInBounds_toArray, List.set_cons_zero, List.set_cons_succ])); (refine wpAnyE_take (i := 3) (oi := ?_) (v := ?_) ?_ (by kernel_rfl) ?_ ?_ (by assumption) ?_; rotate_left 2; (focus ((simp only [List.getElem?_toArray, List.getElem?_cons_succ, List.getElem?_cons_zero]; exact rfl))); (focus (exact fun _ _ _ h => h)); (focus (refine Or.inl ⟨by rfl, ?_⟩; intro w hSw; (try dsimp only at hSw); (first | (go_simp; done) | (go_simp; with_reducible rfl)))); (try simp only [Act.put, List.setIfInBounds_toArray, List.set_cons_zero, List.set_cons_succ])))
        (refine wpAnyE_one (i := 6) (o := ?_) ?_ (by kernel_rfl) (fun K hK => ?_); rotate_left; (focus ((simp only [List.getElem?_toArray, List.getElem?_cons_succ, List.getElem?_cons_zero]; exact rfl))); go_simp; go_at_call 138; refine (op3_zero (numOf a) (numOf b) _ _ _ HNA.out HNB.out hp0).mono ?_; rintro e w6 ⟨rfl, hE⟩; go_wp2_with fail; refine hK.out _ _ ?_ (fun hHeld => ?_); rotate_left; clear hK K; (try simp only [Act.put, List.setIfInBounds_toArray, List.set_cons_zero, List.set_cons_succ]))
        rotate_left
        · exact ⟨hE.cell hSA.1, hE.cell hSA.2.1, hE.cell hSA.2.2.1, hE.cell hSA.2.2.2.1, hE.cell hSA.2.2.2.2.1, hE.cell hSA.2.2.2.2.2⟩
        have N6 := N.ext hE
        have hnl : nb < w5.heap.size := cell_lt N.c0
        have E6 := E.trans hE
        clear hSA N E hE
        ((refine wpAnyE_pure (i := 7) (oi := ?_) (v := ?_) ?_ (by kernel_rfl) ?_ ?_ ?_ ?_; rotate_left 2; (focus ((simp only [List.getElem?_toArray, List.getElem?_cons_succ, List.getElem?_cons_zero]; exact rfl))); (focus (exact fun _ _ _ h => h)); (focus (refine Or.inl ⟨by rfl, ?_⟩; intro w hSw; clear hSw; (first | (go_simp; done) | (go_simp; with_reducible rfl)))); (focus (first | exact (fun _ => by assumption) | (intro hlst; exact absurd hlst (by kernel_rfl)) | (intro hlst; cases hlst))); (try simp only [Act.put, List.setIfInBounds_toArray, List.set_cons_zero, List.set_cons_succ])); (refine wpAnyE_pure (i := 8) (oi := ?_) (v := ?_) ?_ (by kernel_rfl) ?_ ?_ ?_ ?_; rotate_left 2; (focus ((simp only [List.getElem?_toArray, List.getElem?_cons_succ, List.getElem?_cons_zero]; exact rfl))); (focus (exact fun _ _ _ h => h)); (focus (refine Or.inl ⟨by rfl, ?_⟩; intro w hSw; clear hSw; (first | (go_simp; done) | (go_simp; with_reducible rfl)))); (focus (first | exact (fun _ => by assumption) | (intro hlst; exact absurd hlst (by kernel_rfl)) | (intro hlst; cases hlst))); (try simp only [Act.put, List.setIfInBounds_toArray, List.set_cons_zero, List.set_cons_succ])); (refine wpAnyE_pure (i := 9) (oi := ?_) (v := ?_) ?_ (by kernel_rfl) ?_ ?_ ?_ ?_; rotate_left 2; (focus ((simp only [List.getElem?_toArray, List.getElem?_cons_succ, List.getElem?_cons_zero]; exact rfl))); (focus (exact fun _ _ _ h => h)); (focus (refine Or.inl ⟨by rfl, ?_⟩; intro w hSw; clear hSw; (first | (go_simp; done) | (go_simp; with_reducible rfl)))); (focus (first | exact (fun _ => by assumption) | (intro hlst; exact absurd hlst (by kernel_rfl)) | (intro hlst; cases hlst))); (try simp only [Act.put, List.setIfInBounds_toArray, List.set_cons_zero, List.set_cons_succ])))
        clear hHeld
        have HN := Lib.hid N6
        obtain ⟨x0, x1, x2, g0, g1, g2⟩ := N6
        (refine wpAnyE_free (i := 11) (o := ?_) ?_ (by kernel_rfl) (by kernel_rfl) (fun K hK => ?_); rotate_left; (focus ((simp only [List.getElem?_toArray, List.getElem?_cons_succ, List.getElem?_cons_zero]; exact rfl))); go_simp; refine hK.out _ _ ?_; clear hK K; (try simp only [Act.put, List.setIfInBounds_toArray, List.set_cons_zero, List.set_cons_succ]))
        ((refine wpAnyE_pure (i := 12) (oi := ?_) (v := ?_) ?_ (by kernel_rfl) ?_ ?_ ?_ ?_; rotate_left 2; (focus ((simp only [List.getElem?_toArray, List.getElem?_cons_succ, List.getElem?_cons_zero]; exact rfl))); (focus (exact fun _ _ _ h => h)); (focus (refine Or.inl ⟨by rfl, ?_⟩; intro w hSw; clear hSw; (first | (go_simp; done) | (go_simp; with_reducible rfl)))); (focus (first | exact (fun _ => by assumption) | (intro hlst; exact absurd hlst (by kernel_rfl)) | (intro hlst; cases hlst))); (try simp only [Act.put, List.setIfInBounds_toArray, List.set_cons_zero, List.set_cons_succ])))
        refine wpAnyE_done (by kernel_rfl) ?_ _
        go_wp2_with fail
        go_meet
        refine ⟨nb, _, _, _, _, _, _, _, rfl, rfl, ((HN.out.set0 _).set1 _).set2 _, ?_, (by repeat (first | with_reducible exact Ext.refl _ | with_reducible assumption | with_reducible apply Ext.drewN | with_reducible apply Ext.drew | with_reducible apply Ext.alloc | ((with_reducible refine Ext.set ?_ ?_ _); rotate_left; first | omega | (simp; omega)) | (with_reducible refine Ext.trans ?_ (by with_reducible assumption))))⟩
        trivial
    case rest =>
      obtain ⟨nb, z0, z1, zn, zc, z2, zm, zd, rfl, rfl, N, _, E⟩ := hcut
      clear X Y HNA HNB HRES N
      go_wp2_with fail
      go_ret2
      exact ⟨by rw [HR.out]; rfl, E⟩
  go_cut [11, 9] (fun n ev wx => ∃ nb z0 z1 zn zc z2 zm zd, n = .pointer (some ⟨nb, 0, none⟩) ∧ ev = .int .i64 0 ∧ Hid (Num3 nb wx (.bool z0) (.slice z1 zn zc) (.slice z2 zm zd)) ∧ Hid (NumV wx (.agg #[.bool z0, .slice z1 zn zc, .slice z2 zm zd]) (divN (numOf a) (numOf b))) ∧ Ext w wx)
  case first =>
    have hdr : Ext W3 W3.drew := (by repeat (first | with_reducible exact Ext.refl _ | with_reducible assumption | with_reducible apply Ext.drewN | with_reducible apply Ext.drew | with_reducible apply Ext.alloc | ((with_reducible refine Ext.set ?_ ?_ _); rotate_left; first | omega | (simp; omega)) | (with_reducible refine Ext.trans ?_ (by with_reducible assumption))))
    replace X := X.ext hdr
    replace Y := Y.ext hdr
    replace E := E.trans hdr
    replace HNA := Lib.hid (HNA.out.ext hdr)
    replace HNB := Lib.hid (HNB.out.ext hdr)
    have hS : W3.drew.cell? ⟨xb, 0, none⟩ = some (.bool s1) ∧ W3.drew.cell? ⟨xb, 1, none⟩ = some (.slice ta tn tc) ∧ W3.drew.cell? ⟨xb, 2, none⟩ = some (.slice ba bn bc) ∧ W3.drew.cell? ⟨yb, 0, none⟩ = some (.bool s2) ∧ W3.drew.cell? ⟨yb, 1, none⟩ = some (.slice ua un uc) ∧ W3.drew.cell? ⟨yb, 2, none⟩ = some (.slice va vn vc) := ⟨X.c0, X.c1, X.c2, Y.c0, Y.c1, Y.c2⟩
    refine wp_region_heldE 11 (fun w' => w'.cell? ⟨xb, 0, none⟩ = some (.bool s1) ∧ w'.cell? ⟨xb, 1, none⟩ = some (.slice ta tn tc) ∧ w'.cell? ⟨xb, 2, none⟩ = some (.slice ba bn bc) ∧ w'.cell? ⟨yb, 0, none⟩ = some (.bool s2) ∧ w'.cell? ⟨yb, 1, none⟩ = some (.slice ua un uc) ∧ w'.cell? ⟨yb, 2, none⟩ = some (.slice va vn vc)) (by kernel_rfl) ?_
    clear hdr X Y
    generalize W3.drew = W4 at E HNA HNB hS ⊢
    ((refine wpAnyE_take (i := 1) (oi := ?_) (v := ?_) ?_ (by kernel_rfl) ?_ ?_ (by assumption) ?_; rotate_left 2; (focus ((simp only [List.getElem?_toArray, List.getElem?_cons_succ, List.getElem?_cons_zero]; exact rfl))); (focus (exact fun _ _ _ h => h)); (focus (refine Or.inl ⟨by rfl, ?_⟩; intro w hSw; (try dsimp only at hSw); (first | (go_simp; done) | (go_simp; with_reducible rfl)))); (try simp only [Act.put, List.setIfInBounds_toArray, List.set_cons_zero, List.set_cons_succ])); (refine wpAnyE_take (i := 4) (oi := ?_) (v := ?_) ?_ (by kernel_rfl) ?_ ?_ (by assumption) ?_; rotate_left 2; (focus ((simp only [List.getElem?_toArray, List.getElem?_cons_succ, List.getElem?_cons_zero]; exact rfl))); (focus (exact fun _ _ _ h => h)); (focus (refine Or.inl ⟨by rfl, ?_⟩; intro w hSw; (try dsimp only at hSw); (first | (go_simp; done) | (go_simp; with_reducible rfl)))); (try simp only [Act.put, List.setIfInBounds_toArray, List.set_cons_zero, List.set_cons_succ])); (refine wpAnyE_take (i := 5) (oi := ?_) (v := ?_) ?_ (by kernel_rfl) ?_ ?_ (by assumption) ?_; rotate_left 2; (focus ((simp only [List.getElem?_toArray, List.getElem?_cons_succ, List.getElem?_cons_zero]; exact rfl))); (focus (exact fun _ _ _ h => h)); (focus (refine Or.inl ⟨by rfl, ?_⟩; intro w hSw; (try dsimp only at hSw); (first | (go_simp; done) | (go_simp; with_reducible rfl)))); (try simp only [Act.put, List.setIfInBounds_toArray, List.set_cons_zero, List.set_cons_succ])))
    refine wpAnyE_two (i := 0) (j := 10) (o := ?_) (p := ?_) ?_ ?_ (by kernel_rfl) (fun K hK => ?_) (fun K hK => ?_)
    rotate_left 2
    · simp only [List.getElem?_toArray, List.getElem?_cons_zero]; exact rfl
    · simp only [List.getElem?_toArray, List.getElem?_cons_succ, List.getElem?_cons_zero]; exact rfl
    · go_simp
      go_at_call 107
      refine (operations_any _).mono ?_
      rintro e w5 ⟨rfl, hE⟩
      go_wp2_with fail
      have hS5 : w5.cell? ⟨xb, 0, none⟩ = some (.bool s1) ∧ w5.cell? ⟨xb, 1, none⟩ = some (.slice ta tn tc) ∧ w5.cell? ⟨xb, 2, none⟩ = some (.slice ba bn bc) ∧ w5.cell? ⟨yb, 0, none⟩ = some (.bool s2) ∧ w5.cell? ⟨yb, 1, none⟩ = some (.slice ua un uc) ∧ w5.cell? ⟨yb, 2, none⟩ = some (.slice va vn vc) := ⟨hE.cell hS.1, hE.cell hS.2.1, hE.cell hS.2.2.1, hE.cell hS.2.2.2.1, hE.cell hS.2.2.2.2.1, hE.cell hS.2.2.2.2.2⟩
      refine hK.out _ _ hS5 (fun hHeld => ?_)
      clear hK K hHeld
      (try simp only [Act.put, List.setIfInBounds_toArray, List.set_cons_zero, List.set_cons_succ])
      replace E := E.trans hE
      replace HNA := Lib.hid (HNA.out.ext hE)
      replace HNB := Lib.hid (HNB.out.ext hE)
      clear hE hS
      ((refine wpAnyE_take (i := 2) (oi := ?_) (v := ?_) ?_ (by kernel_rfl) ?_ ?_ (by assumption) ?_; rotate_left 2; (focus ((simp only [List.getElem?_toArray, List.getElem?_cons_succ, List.getElem?_cons_zero]; exact rfl))); (focus (exact fun _ _ _ h => h)); (focus (refine Or.inl ⟨by rfl, ?_⟩; intro w hSw; (try dsimp only at hSw); (first | (go_simp; done) | (go_simp; with_reducible rfl)))); (try simp only [Act.put, List.setIfInBounds_toArray, List.set_cons_zero, List.set_cons_succ])); (refine wpAnyE_take (i := 3) (oi := ?_) (v := ?_) ?_ (by kernel_rfl) ?_ ?_ (by assumption) ?_; rotate_left 2; (focus ((simp only [List.getElem?_toArray, List.getElem?_cons_succ, List.getElem?_cons_zero]; exact rfl))); (focus (exact fun _ _ _ h => h)); (focus (refine Or.inl ⟨by rfl, ?_⟩; intro w hSw; (try dsimp only at hSw); (first | (go_simp; done) | (go_simp; with_reducible rfl)))); (try simp only [Act.put, List.setIfInBounds_toArray, List.set_cons_zero, List.set_cons_succ])))
      refine wpAnyE_two (i := 6) (j := 10) (o := ?_) (p := ?_) ?_ ?_ (by kernel_rfl) (fun K hK => ?_) (fun K hK => ?_)
      rotate_left 2
      · simp only [List.getElem?_toArray, List.getElem?_cons_succ, List.getElem?_cons_zero]; exact rfl
      · simp only [List.getElem?_toArray, List.getElem?_cons_succ, List.getElem?_cons_zero]; exact rfl
      · go_simp
        go_at_call 138
        refine (op3_any (numOf a) (numOf b) _ _ _ HNA.out HNB.out hxa hyb hp0).mono ?_; rintro e w6 ⟨z, rfl, hz, hzn, hE⟩; obtain ⟨z1, zc, z2, zd, rfl, k1, k2⟩ := hz
        go_wp2_with fail
        have hS6 : w6.cell? ⟨xb, 0, none⟩ = some (.bool s1) ∧ w6.cell? ⟨xb, 1, none⟩ = some (.slice ta tn tc) ∧ w6.cell? ⟨xb, 2, none⟩ = some (.slice ba bn bc) ∧ w6.cell? ⟨yb, 0, none⟩ = some (.bool s2) ∧ w6.cell? ⟨yb, 1, none⟩ = some (.slice ua un uc) ∧ w6.cell? ⟨yb, 2, none⟩ = some (.slice va vn vc) := ⟨hE.cell hS5.1, hE.cell hS5.2.1, hE.cell hS5.2.2.1, hE.cell hS5.2.2.2.1, hE.cell hS5.2.2.2.2.1, hE.cell hS5.2.2.2.2.2⟩
        refine hK.out _ _ hS6 (fun hHeld => ?_)
        clear hK K hHeld hS5
        (try simp only [Act.put, List.setIfInBounds_toArray, List.set_cons_zero, List.set_cons_succ])
        ((refine wpAnyE_pure (i := 7) (oi := ?_) (v := ?_) ?_ (by kernel_rfl) ?_ ?_ ?_ ?_; rotate_left 2; (focus ((simp only [List.getElem?_toArray, List.getElem?_cons_succ, List.getElem?_cons_zero]; exact rfl))); (focus (exact fun _ _ _ h => h)); (focus (refine Or.inl ⟨by rfl, ?_⟩; intro w hSw; clear hSw; (first | (go_simp; done) | (go_simp; with_reducible rfl)))); (focus (first | exact (fun _ => by assumption) | (intro hlst; exact absurd hlst (by kernel_rfl)) | (intro hlst; cases hlst))); (try simp only [Act.put, List.setIfInBounds_toArray, List.set_cons_zero, List.set_cons_succ])); (refine wpAnyE_pure (i := 8) (oi := ?_) (v := ?_) ?_ (by kernel_rfl) ?_ ?_ ?_ ?_; rotate_left 2; (focus ((simp only [List.getElem?_toArray, List.getElem?_cons_succ, List.getElem?_cons_zero]; exact rfl))); (focus (exact fun _ _ _ h => h)); (focus (refine Or.inl ⟨by rfl, ?_⟩; intro w hSw; clear hSw; (first | (go_simp; done) | (go_simp; with_reducible rfl)))); (focus (first | exact (fun _ => by assumption) | (intro hlst; exact absurd hlst (by kernel_rfl)) | (intro hlst; cases hlst))); (try simp only [Act.put, List.setIfInBounds_toArray, List.set_cons_zero, List.set_cons_succ])); (refine wpAnyE_pure (i := 9) (oi := ?_) (v := ?_) ?_ (by kernel_rfl) ?_ ?_ ?_ ?_; rotate_left 2; (focus ((simp only [List.getElem?_toArray, List.getElem?_cons_succ, List.getElem?_cons_zero]; exact rfl))); (focus (exact fun _ _ _ h => h)); (focus (refine Or.inl ⟨by rfl, ?_⟩; intro w hSw; clear hSw; (first | (go_simp; done) | (go_simp; with_reducible rfl)))); (focus (first | exact (fun _ => by assumption) | (intro hlst; exact absurd hlst (by kernel_rfl)) | (intro hlst; cases hlst))); (try simp only [Act.put, List.setIfInBounds_toArray, List.set_cons_zero, List.set_cons_succ])))
        have EA : Ext w6 (w6.alloc (.cells #[.bool false, .slice none 0 0, .slice none 0 0] 72)) := (by repeat (first | with_reducible exact Ext.refl _ | with_reducible assumption | with_reducible apply Ext.drewN | with_reducible apply Ext.drew | with_reducible apply Ext.alloc | ((with_reducible refine Ext.set ?_ ?_ _); rotate_left; first | omega | (simp; omega)) | (with_reducible refine Ext.trans ?_ (by with_reducible assumption))))
        have N : Num3 w6.heap.size (w6.alloc (.cells #[.bool false, .slice none 0 0, .slice none 0 0] 72)) (.bool false) (.slice none 0 0) (.slice none 0 0) := ⟨by go_simp, by go_simp, by go_simp, by go_simp, by go_simp, by go_simp⟩
        (refine wpAnyE_one (i := 10) (o := ?_) ?_ (by kernel_rfl) (fun K hK => ?_); rotate_left; (focus ((simp only [List.getElem?_toArray, List.getElem?_cons_succ, List.getElem?_cons_zero]; exact rfl))); go_simp; refine hK.out _ _ ?_ (fun hHeld => ?_); rotate_left; clear hK K; (try simp only [Act.put, List.setIfInBounds_toArray, List.set_cons_zero, List.set_cons_succ]))
        rotate_left
        · exact ⟨EA.cell hS6.1, EA.cell hS6.2.1, EA.cell hS6.2.2.1, EA.cell hS6.2.2.2.1, EA.cell hS6.2.2.2.2.1, EA.cell hS6.2.2.2.2.2⟩
        obtain ⟨nb, hnb⟩ : ∃ nb, nb = w6.heap.size := ⟨_, rfl⟩
        rw [← hnb] at N ⊢
        have hnw : w6.heap.size ≤ nb := by omega
        have hww : w.heap.size ≤ nb := by have := (E.trans hE).size; omega
        have E6 := (E.trans hE).trans EA
        have HEA := Lib.hid EA
        clear EA hS6 hHeld hnb E hE
        generalize (w6.alloc (.cells #[.bool false, .slice none 0 0, .slice none 0 0] 72)) = W7 at N HEA E6 ⊢
        have HN := Lib.hid N
        obtain ⟨x0, x1, x2, g0, g1, g2⟩ := N
        (refine wpAnyE_free (i := 11) (o := ?_) ?_ (by kernel_rfl) (by kernel_rfl) (fun K hK => ?_); rotate_left; (focus ((simp only [List.getElem?_toArray, List.getElem?_cons_succ, List.getElem?_cons_zero]; exact rfl))); go_simp; refine hK.out _ _ ?_; clear hK K; (try simp only [Act.put, List.setIfInBounds_toArray, List.set_cons_zero, List.set_cons_succ]))
        ((refine wpAnyE_pure (i := 12) (oi := ?_) (v := ?_) ?_ (by kernel_rfl) ?_ ?_ ?_ ?_; rotate_left 2; (focus ((simp only [List.getElem?_toArray, List.getElem?_cons_succ, List.getElem?_cons_zero]; exact rfl))); (focus (exact fun _ _ _ h => h)); (focus (refine Or.inl ⟨by rfl, ?_⟩; intro w hSw; clear hSw; (first | (go_simp; done) | (go_simp; with_reducible rfl)))); (focus (first | exact (fun _ => by assumption) | (intro hlst; exact absurd hlst (by kernel_rfl)) | (intro hlst; cases hlst))); (try simp only [Act.put, List.setIfInBounds_toArray, List.set_cons_zero, List.set_cons_succ])))
        refine wpAnyE_done (by kernel_rfl) ?_ _
        go_wp2_with fail
        go_meet
        refine ⟨nb, _, _, _, _, _, _, _, rfl, rfl, ((HN.out.set0 _).set1 _).set2 _, ?_, (by repeat (first | with_reducible exact Ext.refl _ | with_reducible assumption | with_reducible apply Ext.drewN | with_reducible apply Ext.drew | with_reducible apply Ext.alloc | ((with_reducible refine Ext.set ?_ ?_ _); rotate_left; first | omega | (simp; omega)) | (with_reducible refine Ext.trans ?_ (by with_reducible assumption))))⟩
        exact NumV.ext ⟨z1, zc, z2, zd, rfl, k1, k2⟩ (((HEA.out.set hnw _).set hnw _).set hnw _)
      · go_simp
        have EA : Ext w5 (w5.alloc (.cells #[.bool false, .slice none 0 0, .slice none 0 0] 72)) := (by repeat (first | with_reducible exact Ext.refl _ | with_reducible assumption | with_reducible apply Ext.drewN | with_reducible apply Ext.drew | with_reducible apply Ext.alloc | ((with_reducible refine Ext.set ?_ ?_ _); rotate_left; first | omega | (simp; omega)) | (with_reducible refine Ext.trans ?_ (by with_reducible assumption))))
        have N : Num3 w5.heap.size (w5.alloc (.cells #[.bool false, .slice none 0 0, .slice none 0 0] 72)) (.bool false) (.slice none 0 0) (.slice none 0 0) := ⟨by go_simp, by go_simp, by go_simp, by go_simp, by go_simp, by go_simp⟩
        have hSA : (w5.alloc (.cells #[.bool false, .slice none 0 0, .slice none 0 0] 72)).cell? ⟨xb, 0, none⟩ = some (.bool s1) ∧ (w5.alloc (.cells #[.bool false, .slice none 0 0, .slice none 0 0] 72)).cell? ⟨xb, 1, none⟩ = some (.slice ta tn tc) ∧ (w5.alloc (.cells #[.bool false, .slice none 0 0, .slice none 0 0] 72)).cell? ⟨xb, 2, none⟩ = some (.slice ba bn bc) ∧ (w5.alloc (.cells #[.bool false, .slice none 0 0, .slice none 0 0] 72)).cell? ⟨yb, 0, none⟩ = some (.bool s2) ∧ (w5.alloc (.cells #[.bool false, .slice none 0 0, .slice none 0 0] 72)).cell? ⟨yb, 1, none⟩ = some (.slice ua un uc) ∧ (w5.alloc (.cells #[.bool false, .slice none 0 0, .slice none 0 0] 72)).cell? ⟨yb, 2, none⟩ = some (.slice va vn vc) := ⟨EA.cell hS5.1, EA.cell hS5.2.1, EA.cell hS5.2.2.1, EA.cell hS5.2.2.2.1, EA.cell hS5.2.2.2.2.1, EA.cell hS5.2.2.2.2.2⟩
        refine hK.out _ _ hSA (fun hHeld => ?_)
        clear hK K hHeld hS5
        (try simp only [Act.put, List.setIfInBounds_toArray, List.set_cons_zero, List.set_cons_succ])
        obtain ⟨nb, hnb⟩ : ∃ nb, nb = w5.heap.size := ⟨_, rfl⟩
        rw [← hnb] at N ⊢
        have hww : w.heap.size ≤ nb := by have := E.size; omega
        replace E := E.trans EA
        replace HNA := Lib.hid (HNA.out.ext EA)
        replace HNB := Lib.hid (HNB.out.ext EA)
        clear EA hnb
        generalize (w5.alloc (.cells #[.bool false, .slice none 0 0, .slice none 0 0] 72)) = w5 at N hSA E HNA HNB ⊢
        (refine wpAnyE_one (i := 6) (o := ?_) ?_ (by kernel_rfl) (fun K hK => ?_); rotate_left; (focus ((simp only [List.getElem?_toArray, List.getElem?_cons_succ, List.getElem?_cons_zero]; exact rfl))); go_simp; go_at_call 138; refine (op3_any (numOf a) (numOf b) _ _ _ HNA.out HNB.out hxa hyb hp0).mono ?_; rintro e w6 ⟨z, rfl, hz, hzn, hE⟩; obtain ⟨z1, zc, z2, zd, rfl, k1, k2⟩ := hz; go_wp2_with fail; refine hK.out _ _ ?_ (fun hHeld => ?_); rotate_left; clear hK K; (try simp only [Act.put, List.setIfInBounds_toArray, List.set_cons_zero, List.set_cons_succ]))
        rotate_left
        · exact ⟨hE.cell hSA.1, hE.cell hSA.2.1, hE.cell hSA.2.2.1, hE.cell hSA.2.2.2.1, hE.cell hSA.2.2.2.2.1, hE.cell hSA.2.2.2.2.2⟩
        have N6 := N.ext hE
        have hnl : nb < w5.heap.size := cell_lt N.c0
        have E6 := E.trans hE
        clear hSA N E hE
        ((refine wpAnyE_pure (i := 7) (oi := ?_) (v := ?_) ?_ (by kernel_rfl) ?_ ?_ ?_ ?_; rotate_left 2; (focus ((simp only [List.getElem?_toArray, List.getElem?_cons_succ, List.getElem?_cons_zero]; exact rfl))); (focus (exact fun _ _ _ h => h)); (focus (refine Or.inl ⟨by rfl, ?_⟩; intro w hSw; clear hSw; (first | (go_simp; done) | (go_simp; with_reducible rfl)))); (focus (first | exact (fun _ => by assumption) | (intro hlst; exact absurd hlst (by kernel_rfl)) | (intro hlst; cases hlst))); (try simp only [Act.put, List.setIfInBounds_toArray, List.set_cons_zero, List.set_cons_succ])); (refine wpAnyE_pure (i := 8) (oi := ?_) (v := ?_) ?_ (by kernel_rfl) ?_ ?_ ?_ ?_; rotate_left 2; (focus ((simp only [List.getElem?_toArray, List.getElem?_cons_succ, List.getElem?_cons_zero]; exact rfl))); (focus (exact fun _ _ _ h => h)); (focus (refine Or.inl ⟨by rfl, ?_⟩; intro w hSw; clear hSw; (first | (go_simp; done) | (go_simp; with_reducible rfl)))); (focus (first | exact (fun _ => by assumption) | (intro hlst; exact absurd hlst (by kernel_rfl)) | (intro hlst; cases hlst))); (try simp only [Act.put, List.setIfInBounds_toArray, List.set_cons_zero, List.set_cons_succ])); (refine wpAnyE_pure (i := 9) (oi := ?_) (v := ?_) ?_ (by kernel_rfl) ?_ ?_ ?_ ?_; rotate_left 2; (focus ((simp only [List.getElem?_toArray, List.getElem?_cons_succ, List.getElem?_cons_zero]; exact rfl))); (focus (exact fun _ _ _ h => h)); (focus (refine Or.inl ⟨by rfl, ?_⟩; intro w hSw; clear hSw; (first | (go_simp; done) | (go_simp; with_reducible rfl)))); (focus (first | exact (fun _ => by assumption) | (intro hlst; exact absurd hlst (by kernel_rfl)) | (intro hlst; cases hlst))); (try simp only [Act.put, List.setIfInBounds_toArray, List.set_cons_zero, List.set_cons_succ])))
        clear hHeld
        have HN := Lib.hid N6
        obtain ⟨x0, x1, x2, g0, g1, g2⟩ := N6
        (refine wpAnyE_free (i := 11) (o := ?_) ?_ (by kernel_rfl) (by kernel_rfl) (fun K hK => ?_); rotate_left; (focus ((simp only [List.getElem?_toArray, List.getElem?_cons_succ, List.getElem?_cons_zero]; exact rfl))); go_simp; refine hK.out _ _ ?_; clear hK K; (try simp only [Act.put, List.setIfInBounds_toArray, List.set_cons_zero, List.set_cons_succ]))
        ((refine wpAnyE_pure (i := 12) (oi := ?_) (v := ?_) ?_ (by kernel_rfl) ?_ ?_ ?_ ?_; rotate_left 2; (focus ((simp only [List.getElem?_toArray, List.getElem?_cons_succ, List.getElem?_cons_zero]; exact rfl))); (focus (exact fun _ _ _ h => h)); (focus (refine Or.inl ⟨by rfl, ?_⟩; intro w hSw; clear hSw; (first | (go_simp; done) | (go_simp; with_reducible rfl)))); (focus (first | exact (fun _ => by assumption) | (intro hlst; exact absurd hlst (by kernel_rfl)) | (intro hlst; cases hlst))); (try simp only [Act.put, List.setIfInBounds_toArray, List.set_cons_zero, List.set_cons_succ])))
        refine wpAnyE_done (by kernel_rfl) ?_ _
        go_wp2_with fail
        go_meet
        refine ⟨nb, _, _, _, _, _, _, _, rfl, rfl, ((HN.out.set0 _).set1 _).set2 _, ?_, (by repeat (first | with_reducible exact Ext.refl _ | with_reducible assumption | with_reducible apply Ext.drewN | with_reducible apply Ext.drew | with_reducible apply Ext.alloc | ((with_reducible refine Ext.set ?_ ?_ _); rotate_left; first | omega | (simp; omega)) | (with_reducible refine Ext.trans ?_ (by with_reducible assumption))))⟩
        exact NumV.set (NumV.set (NumV.set ⟨z1, zc, z2, zd, rfl, k1, k2⟩ hzn hnl) hzn hnl) hzn hnl
    · go_simp
      have EA : Ext W4 (W4.alloc (.cells #[.bool false, .slice none 0 0, .slice none 0 0] 72)) := (by repeat (first | with_reducible exact Ext.refl _ | with_reducible assumption | with_reducible apply Ext.drewN | with_reducible apply Ext.drew | with_reducible apply Ext.alloc | ((with_reducible refine Ext.set ?_ ?_ _); rotate_left; first | omega | (simp; omega)) | (with_reducible refine Ext.trans ?_ (by with_reducible assumption))))
      have N : Num3 W4.heap.size (W4.alloc (.cells #[.bool false, .slice none 0 0, .slice none 0 0] 72)) (.bool false) (.slice none 0 0) (.slice none 0 0) := ⟨by go_simp, by go_simp, by go_simp, by go_simp, by go_simp, by go_simp⟩
      have hSA : (W4.alloc (.cells #[.bool false, .slice none 0 0, .slice none 0 0] 72)).cell? ⟨xb, 0, none⟩ = some (.bool s1) ∧ (W4.alloc (.cells #[.bool false, .slice none 0 0, .slice none 0 0] 72)).cell? ⟨xb, 1, none⟩ = some (.slice ta tn tc) ∧ (W4.alloc (.cells #[.bool false, .slice none 0 0, .slice none 0 0] 72)).cell? ⟨xb, 2, none⟩ = some (.slice ba bn bc) ∧ (W4.alloc (.cells #[.bool false, .slice none 0 0, .slice none 0 0] 72)).cell? ⟨yb, 0, none⟩ = some (.bool s2) ∧ (W4.alloc (.cells #[.bool false, .slice none 0 0, .slice none 0 0] 72)).cell? ⟨yb, 1, none⟩ = some (.slice ua un uc) ∧ (W4.alloc (.cells #[.bool false, .slice none 0 0, .slice none 0 0] 72)).cell? ⟨yb, 2, none⟩ = some (.slice va vn vc) := ⟨EA.cell hS.1, EA.cell hS.2.1, EA.cell hS.2.2.1, EA.cell hS.2.2.2.1, EA.cell hS.2.2.2.2.1, EA.cell hS.2.2.2.2.2⟩
      refine hK.out _ _ hSA (fun hHeld => ?_)
      clear hK K hHeld hS
      (try simp only [Act.put, List.setIfInBounds_toArray, List.set_cons_zero, List.set_cons_succ])
      obtain ⟨nb, hnb⟩ : ∃ nb, nb = W4.heap.size := ⟨_, rfl⟩
      rw [← hnb] at N ⊢
      have hww : w.heap.size ≤ nb := by have := E.size; omega
      replace E := E.trans EA
      replace HNA := Lib.hid (HNA.out.ext EA)
      replace HNB := Lib.hid (HNB.out.ext EA)
      clear EA hnb
      generalize (W4.alloc (.cells #[.bool false, .slice none 0 0, .slice none 0 0] 72)) = W5 at N hSA E HNA HNB ⊢
      (refine wpAnyE_one (i := 0) (o := ?_) ?_ (by kernel_rfl) (fun K hK => ?_); rotate_left; (focus ((simp only [List.getElem?_toArray, List.getElem?_cons_zero]; exact rfl))); go_simp; go_at_call 107; refine (operations_any _).mono ?_; rintro e w5 ⟨rfl, hE⟩; go_wp2_with fail; refine hK.out _ _ ?_ (fun hHeld => ?_); rotate_left; clear hK K; (try simp only [Act.put, List.setIfInBounds_toArray, List.set_cons_zero, List.set_cons_succ]))
      rotate_left
      · exact ⟨hE.cell hSA.1, hE.cell hSA.2.1, hE.cell hSA.2.2.1, hE.cell hSA.2.2.2.1, hE.cell hSA.2.2.2.2.1, hE.cell hSA.2.2.2.2.2⟩
      replace hSA : w5.cell? ⟨xb, 0, none⟩ = some (.bool s1) ∧ w5.cell? ⟨xb, 1, none⟩ = some (.slice ta tn tc) ∧ w5.cell? ⟨xb, 2, none⟩ = some (.slice ba bn bc) ∧ w5.cell? ⟨yb, 0, none⟩ = some (.bool s2) ∧ w5.cell? ⟨yb, 1, none⟩ = some (.slice ua un uc) ∧ w5.cell? ⟨yb, 2, none⟩ = some (.slice va vn vc) := ⟨hE.cell hSA.1, hE.cell hSA.2.1, hE.cell hSA.2.2.1, hE.cell hSA.2.2.2.1, hE.cell hSA.2.2.2.2.1, hE.cell hSA.2.2.2.2.2⟩
      replace N := N.ext hE
      replace E := E.trans hE
      replace HNA := Lib.hid (HNA.out.ext hE)
      replace HNB := Lib.hid (HNB.out.ext hE)
      clear hE hHeld
      ((refine wpAnyE_take (i := 2) (oi := ?_) (v := ?_) ?_ (by kernel_rfl) ?_ ?_ (by assumption) ?_; rotate_left 2; (focus ((simp only [List.getElem?_toArray, List.getElem?_cons_succ, List.getElem?_cons_zero]; exact rfl))); (focus (exact fun _ _ _ h => h)); (focus (refine Or.inl ⟨by rfl, ?_⟩; intro w hSw; (try dsimp only at hSw); (first | (go_simp; done) | (go_simp; with_reducible rfl)))); (try simp only [Act.put, List.setIfInBounds_toArray, List.set_cons_zero, List.set_cons_succ])); (refine wpAnyE_take (i := 3) (oi := ?_) (v := ?_) ?_ (by kernel_rfl) ?_ ?_ (by assumption) ?_; rotate_left 2; (focus ((simp only [List.getElem?_toArray, List.getElem?_cons_succ, List.getElem?_cons_zero]; exact rfl))); (focus (exact fun _ _ _ h => h)); (focus (refine Or.inl ⟨by rfl, ?_⟩; intro w hSw; (try dsimp only at hSw); (first | (go_simp; done) | (go_simp; with_reducible rfl)))); (try simp only [Act.put, List.setIfInBounds_toArray, List.set_cons_zero, List.set_cons_succ])))
      (refine wpAnyE_one (i := 6) (o := ?_) ?_ (by kernel_rfl) (fun K hK => ?_); rotate_left; (focus ((simp only [List.getElem?_toArray, List.getElem?_cons_succ, List.getElem?_cons_zero]; exact rfl))); go_simp; go_at_call 138; refine (op3_any (numOf a) (numOf b) _ _ _ HNA.out HNB.out hxa hyb hp0).mono ?_; rintro e w6 ⟨z, rfl, hz, hzn, hE⟩; obtain ⟨z1, zc, z2, zd, rfl, k1, k2⟩ := hz; go_wp2_with fail; refine hK.out _ _ ?_ (fun hHeld => ?_); rotate_left; clear hK K; (try simp only [Act.put, List.setIfInBounds_toArray, List.set_cons_zero, List.set_cons_succ]))
      rotate_left
      · exact ⟨hE.cell hSA.1, hE.cell hSA.2.1, hE.cell hSA.2.2.1, hE.cell hSA.2.2.2.1, hE.cell hSA.2.2.2.2.1, hE.cell hSA.2.2.2.2.2⟩
      have N6 := N.ext hE
      have hnl : nb < w5.heap.size := cell_lt N.c0
      have E6 := E.trans hE
      clear hSA N E hE
      ((refine wpAnyE_pure (i := 7) (oi := ?_) (v := ?_) ?_ (by kernel_rfl) ?_ ?_ ?_ ?_; rotate_left 2; (focus ((simp only [List.getElem?_toArray, List.getElem?_cons_succ, List.getElem?_cons_zero]; exact rfl))); (focus (exact fun _ _ _ h => h)); (focus (refine Or.inl ⟨by rfl, ?_⟩; intro w hSw; clear hSw; (first | (go_simp; done) | (go_simp; with_reducible rfl)))); (focus (first | exact (fun _ => by assumption) | (intro hlst; exact absurd hlst (by kernel_rfl)) | (intro hlst; cases hlst))); (try simp only [Act.put, List.setIfInBounds_toArray, List.set_cons_zero, List.set_cons_succ])); (refine wpAnyE_pure (i := 8) (oi := ?_) (v := ?_) ?_ (by kernel_rfl) ?_ ?_ ?_ ?_; rotate_left 2; (focus ((simp only [List.getElem?_toArray, List.getElem?_cons_succ, List.getElem?_cons_zero]; exact rfl))); (focus (exact fun _ _ _ h => h)); (focus (refine Or.inl ⟨by rfl, ?_⟩; intro w hSw; clear hSw; (first | (go_simp; done) | (go_simp; with_reducible rfl)))); (focus (first | exact (fun _ => by assumption) | (intro hlst; exact absurd hlst (by kernel_rfl)) | (intro hlst; cases hlst))); (try simp only [Act.put, List.setIfInBounds_toArray, List.set_cons_zero, List.set_cons_succ])); (refine wpAnyE_pure (i := 9) (oi := ?_) (v := ?_) ?_ (by kernel_rfl) ?_ ?_ ?_ ?_; rotate_left 2; (focus ((simp only [List.getElem?_toArray, List.getElem?_cons_succ, List.getElem?_cons_zero]; exact rfl))); (focus (exact fun _ _ _ h => h)); (focus (refine Or.inl ⟨by rfl, ?_⟩; intro w hSw; clear hSw; (first | (go_simp; done) | (go_simp; with_reducible rfl)))); (focus (first | exact (fun _ => by assumption) | (intro hlst; exact absurd hlst (by kernel_rfl)) | (intro hlst; cases hlst))); (try simp only [Act.put, List.setIfInBounds_toArray, List.set_cons_zero, List.set_cons_succ])))
      clear hHeld
      have HN := Lib.hid N6
      obtain ⟨x0, x1, x2, g0, g1, g2⟩ := N6
      (refine wpAnyE_free (i := 11) (o := ?_) ?_ (by kernel_rfl) (by kernel_rfl) (fun K hK => ?_); rotate_left; (focus ((simp only [List.getElem?_toArray, List.getElem?_cons_succ, List.getElem?_cons_zero]; exact rfl))); go_simp; refine hK.out _ _ ?_; clear hK K; (try simp only [Act.put, List.setIfInBounds_toArray, List.set_cons_zero, List.set_cons_succ]))
      ((refine wpAnyE_pure (i := 12) (oi := ?_) (v := ?_) ?_ (by kernel_rfl) ?_ ?_ ?_ ?_; rotate_left 2; (focus ((simp only [List.getElem?_toArray, List.getElem?_cons_succ, List.getElem?_cons_zero]; exact rfl))); (focus (exact fun _ _ _ h => h)); (focus (refine Or.inl ⟨by rfl, ?_⟩; intro w hSw; clear hSw; (first | (go_simp; done) | (go_simp; with_reducible rfl)))); (focus (first | exact (fun _ => by assumption) | (intro hlst; exact absurd hlst (by kernel_rfl)) | (intro hlst; cases hlst))); (try simp only [Act.put, List.setIfInBounds_toArray, List.set_cons_zero, List.set_cons_succ])))
      refine wpAnyE_done (by kernel_rfl) ?_ _
      go_wp2_with fail
      go_meet
      refine ⟨nb, _, _, _, _, _, _, _, rfl, rfl, ((HN.out.set0 _).set1 _).set2 _, ?_, (by repeat (first | with_reducible exact Ext.refl _ | with_reducible assumption | with_reducible apply Ext.drewN | with_reducible apply Ext.drew | with_reducible apply Ext.alloc | ((with_reducible refine Ext.set ?_ ?_ _); rotate_left; first | omega | (simp; omega)) | (with_reducible refine Ext.trans ?_ (by with_reducible assumption))))⟩
      exact NumV.set (NumV.set (NumV.set ⟨z1, zc, z2, zd, rfl, k1, k2⟩ hzn hnl) hzn hnl) hzn hnl
  case rest =>
    obtain ⟨nb, z0, z1, zn, zc, z2, zm, zd, rfl, rfl, N, HZ, E⟩ := hcut
    have ka := (numOf_len HEA.out).2
    have kb := (numOf_len HEB.out).2
    have hval : valQ (divN (numOf a) (numOf b)) = fracQ a / fracQ b := (divN_val kb hp0).trans (by rw [numOf_val, numOf_val])
    have hden : (divN (numOf a) (numOf b)).2.2 ≠ 0 := Nat.mul_ne_zero ka hp0
    have hlen := divN_len hxa hyb
    have HRR := Lib.hid ((HRES.out.2.2 HEA.out HEB.out).trans (by rw [if_neg (fun e => hp0 ((frac_zero HEB.out).1 e))]))
    generalize divN (numOf a) (numOf b) = SN at *
    have HW := Lib.hid (written_any SN.1 SN.2.1 SN.2.2 _ _ HZ.out hden (HG.out.ext E) hlen.1 hlen.2)
    have HV := Lib.hid (show numQ SN.1 SN.2.1 SN.2.2 = fracQ a / fracQ b from hval)
    obtain ⟨x0, x1, x2, _, _, _⟩ := N.out
    clear X Y HNA HNB HRES HZ N hval hden hlen ka kb hxa hyb
    go_wp2_with (go_at_call 54; refine HW.out.mono ?_; rintro e w9 ⟨rfl, hE⟩)
    go_ret2
    exact ⟨by rw [HRR.out, HV.out]; rfl, E.trans hE⟩
end Go.Proofs.YtpfanpkinlklnaaGreatDoor
/- The program's Check, Neg, Sign, Add, Sub, Mul and Div. -/
namespace Go.Proofs.YtpfanpkinlklnaaGreatDoor
open Go.RowKit
open Go.Lib (decDigits itoa)

theorem neg_res {a : Txt} (h : fracE a = 0) : negR a = resQ (-fracQ a) := by
  unfold negR ifOk resQ
  rw [if_pos h]
  have hf := frac_fit h
  have e : (-fracQ a).num = -(fracQ a).num := rfl
  have h2 : FitQ (-fracQ a) := ⟨by rw [e, Int.natAbs_neg]; exact hf.1, hf.2⟩
  unfold madeT madeE
  rw [if_pos h2, if_pos h2]
theorem neg_bad {a : Txt} (h : fracE a ≠ 0) : negR a = ([], fracE a) := by unfold negR ifOk badR; rw [if_neg h]
theorem opp_val (x : Num) : numQ (negN x).1 (negN x).2.1 (negN x).2.2 = -valQ x := negN_val x
/-- of a number alone -/
def IntP (z : Int) (n : Nat) (w : World) (e : Ending) (w' : World) : Prop := e = .returned (.tuple #[.int .i64 z, .int .i64 (n : Nat)]) ∧ Ext w w'

set_option maxHeartbeats 4000000 in
set_option maxRecDepth 100000 in
theorem check_any (a : Txt) (w : World) (hG : Glob w) (ha : a.length ≤ 400) :
    Calls Tryz.prog 44 #[txt a] w fun e w' => e = .returned (.int .i64 (fracE a : Nat)) ∧ Ext w w' := by
  have HPA := Lib.hid (parsed_any a w hG ha)
  clear hG
  go_enter Tryz.func44, Tryz.ntmps44
  go_wp2_with fail
  refine HPA.out.mono ?_
  rintro e w1 ⟨v1, rfl, ⟨s1, ta, tn, tc, ba, bn, bc, rfl⟩, hn1, hE⟩
  clear hn1 HPA
  go_wp2_with fail
  go_ret
  exact ⟨rfl, (by repeat (first | with_reducible exact Ext.refl _ | with_reducible assumption | with_reducible apply Ext.drewN | with_reducible apply Ext.drew | with_reducible apply Ext.alloc | ((with_reducible refine Ext.set ?_ ?_ _); rotate_left; first | omega | (simp; omega)) | (with_reducible refine Ext.trans ?_ (by with_reducible assumption))))⟩

set_option maxHeartbeats 4000000 in
set_option maxRecDepth 100000 in
theorem neg_any (a : Txt) (w : World) (hG : Glob w) (ha : a.length ≤ 400) :
    Calls Tryz.prog 20 #[txt a] w (ResP (negR a) w) := by
  have HPA := Lib.hid (parsed_any a w hG ha)
  have HG := Lib.hid hG
  clear hG
  go_enter Tryz.func20, Tryz.ntmps20
  go_wp2_with fail
  refine HPA.out.mono ?_
  rintro e w1 ⟨v1, rfl, ⟨s1, ta, tn, tc, ba, bn, bc, rfl⟩, hn1, hE⟩
  have HN1 := Lib.hid hn1
  clear hn1 HPA
  by_cases ea : fracE a = 0
  rotate_left
  · have HR := Lib.hid (neg_bad ea)
    have hne : (((fracE a : Nat) : Int) != 0) = true := by rw [bne_iff_ne]; omega
    clear HN1
    generalize fracE a = n at *
    go_wp2_with fail
    go_ret2
    unfold ResP
    exact ⟨by rw [HR.out]; rfl, (by repeat (first | with_reducible exact Ext.refl _ | with_reducible assumption | with_reducible apply Ext.drewN | with_reducible apply Ext.drew | with_reducible apply Ext.alloc | ((with_reducible refine Ext.set ?_ ?_ _); rotate_left; first | omega | (simp; omega)) | (with_reducible refine Ext.trans ?_ (by with_reducible assumption))))⟩
  have HNA := Lib.hid (HN1.out ea)
  have HR := Lib.hid (neg_res ea)
  have HLN := Lib.hid (numOf_len ea)
  rw [ea]
  clear ea HN1
  have hne : (((0 : Nat) : Int) != 0) = false := rfl
  have EV : Ext w1 (w1.alloc (.cells #[.bool s1, .slice ta tn tc, .slice ba bn bc] 72)) := (by repeat (first | with_reducible exact Ext.refl _ | with_reducible assumption | with_reducible apply Ext.drewN | with_reducible apply Ext.drew | with_reducible apply Ext.alloc | ((with_reducible refine Ext.set ?_ ?_ _); rotate_left; first | omega | (simp; omega)) | (with_reducible refine Ext.trans ?_ (by with_reducible assumption))))
  have X : Num3 w1.heap.size (w1.alloc (.cells #[.bool s1, .slice ta tn tc, .slice ba bn bc] 72)) (.bool s1) (.slice ta tn tc) (.slice ba bn bc) := ⟨by go_simp, by go_simp, by go_simp, by go_simp, by go_simp, by go_simp⟩
  have E := hE.trans EV
  replace HNA := Lib.hid (HNA.out.ext EV)
  clear EV hE
  go_wp2_with fail
  refine (opposite_any (numOf a) _ _ HNA.out).mono ?_
  rintro e w3 ⟨v3, rfl, h3, e3⟩
  have HW := Lib.hid (written_any (negN (numOf a)).1 (negN (numOf a)).2.1 (negN (numOf a)).2.2 v3 w3 h3 HLN.out.2 (HG.out.ext (E.trans e3)) (Nat.le_trans HLN.out.1.1 (by omega)) (Nat.le_trans HLN.out.1.2 (by omega)))
  have hv : numQ (negN (numOf a)).1 (negN (numOf a)).2.1 (negN (numOf a)).2.2 = -fracQ a := by rw [opp_val, numOf_val]
  rw [hv] at HW
  have E3 := E.trans e3
  obtain ⟨xa, xc, ya, yc, rfl, _, _⟩ := h3
  clear hv
  generalize negN (numOf a) = NN at *
  clear e3 E X HNA
  go_wp2_with fail
  refine HW.out.mono ?_
  rintro e w4 ⟨rfl, e4⟩
  go_wp2_with fail
  go_ret2
  unfold ResP
  refine ⟨?_, E3.trans e4⟩
  rw [HR.out]
  rfl

set_option maxHeartbeats 4000000 in
set_option maxRecDepth 100000 in
theorem signF_any (a : Txt) (w : World) (hG : Glob w) (ha : a.length ≤ 400) :
    Calls Tryz.prog 46 #[txt a] w (IntP (signS a).1 (signS a).2 w) := by
  have HPA := Lib.hid (parsed_any a w hG ha)
  clear hG
  unfold IntP
  go_enter Tryz.func46, Tryz.ntmps46
  go_wp2_with fail
  refine HPA.out.mono ?_
  rintro e w1 ⟨v1, rfl, ⟨s1, ta, tn, tc, ba, bn, bc, rfl⟩, hn1, hE⟩
  have HN1 := Lib.hid hn1
  clear hn1 HPA
  by_cases ea : fracE a = 0
  rotate_left
  · have HR : Hid (signS a = (0, fracE a)) := by show _ = _; unfold signS ifOk; rw [if_neg ea]
    have hne : (((fracE a : Nat) : Int) != 0) = true := by rw [bne_iff_ne]; omega
    clear HN1
    generalize fracE a = n at *
    go_wp2_with fail
    go_ret2
    exact ⟨by rw [HR.out]; rfl, (by repeat (first | with_reducible exact Ext.refl _ | with_reducible assumption | with_reducible apply Ext.drewN | with_reducible apply Ext.drew | with_reducible apply Ext.alloc | ((with_reducible refine Ext.set ?_ ?_ _); rotate_left; first | omega | (simp; omega)) | (with_reducible refine Ext.trans ?_ (by with_reducible assumption))))⟩
  have HNA := Lib.hid (HN1.out ea)
  have HR : Hid (signS a = (signN (numOf a), 0)) := by
    show _ = _
    unfold signS ifOk signN
    rw [if_pos ea, ← numOf_val]
    unfold valQ
    rw [num_sign (numOf_len ea).2]
  rw [ea]
  clear ea HN1
  have hne : (((0 : Nat) : Int) != 0) = false := rfl
  have EV : Ext w1 (w1.alloc (.cells #[.bool s1, .slice ta tn tc, .slice ba bn bc] 72)) := (by repeat (first | with_reducible exact Ext.refl _ | with_reducible assumption | with_reducible apply Ext.drewN | with_reducible apply Ext.drew | with_reducible apply Ext.alloc | ((with_reducible refine Ext.set ?_ ?_ _); rotate_left; first | omega | (simp; omega)) | (with_reducible refine Ext.trans ?_ (by with_reducible assumption))))
  have X : Num3 w1.heap.size (w1.alloc (.cells #[.bool s1, .slice ta tn tc, .slice ba bn bc] 72)) (.bool s1) (.slice ta tn tc) (.slice ba bn bc) := ⟨by go_simp, by go_simp, by go_simp, by go_simp, by go_simp, by go_simp⟩
  have E := hE.trans EV
  replace HNA := Lib.hid (HNA.out.ext EV)
  clear EV hE
  go_wp2_with fail
  refine (sign_any (numOf a) _ _ HNA.out).mono ?_
  rintro e w3 ⟨rfl, e3⟩
  go_wp2_with fail
  go_ret2
  exact ⟨by rw [HR.out]; rfl, E.trans e3⟩

set_option maxHeartbeats 2000000 in
theorem add_any (a b : Txt) (w : World) (hG : Glob w) (ha : a.length ≤ 400) (hb : b.length ≤ 400) : Calls Tryz.prog 29 #[txt a, txt b] w (ResP (addS a b) w) := by
  have H := Lib.hid (computed0_any a b w hG ha hb)
  clear hG
  go_enter Tryz.func29, Tryz.ntmps29
  go_wp2_with (go_at_call 69; refine H.out.mono ?_; rintro e w1 ⟨rfl, hE⟩)
  go_ret2
  exact ⟨rfl, hE⟩
set_option maxHeartbeats 2000000 in
theorem sub_any (a b : Txt) (w : World) (hG : Glob w) (ha : a.length ≤ 400) (hb : b.length ≤ 400) : Calls Tryz.prog 31 #[txt a, txt b] w (ResP (subS a b) w) := by
  have H := Lib.hid (computed1_any a b w hG ha hb)
  clear hG
  go_enter Tryz.func31, Tryz.ntmps31
  go_wp2_with (go_at_call 69; refine H.out.mono ?_; rintro e w1 ⟨rfl, hE⟩)
  go_ret2
  exact ⟨rfl, hE⟩
set_option maxHeartbeats 2000000 in
theorem mul_any (a b : Txt) (w : World) (hG : Glob w) (ha : a.length ≤ 400) (hb : b.length ≤ 400) : Calls Tryz.prog 33 #[txt a, txt b] w (ResP (mulS a b) w) := by
  have H := Lib.hid (computed2_any a b w hG ha hb)
  clear hG
  go_enter Tryz.func33, Tryz.ntmps33
  go_wp2_with (go_at_call 69; refine H.out.mono ?_; rintro e w1 ⟨rfl, hE⟩)
  go_ret2
  exact ⟨rfl, hE⟩
set_option maxHeartbeats 2000000 in
theorem div_any (a b : Txt) (w : World) (hG : Glob w) (ha : a.length ≤ 400) (hb : b.length ≤ 400) : Calls Tryz.prog 35 #[txt a, txt b] w (ResP (divS a b) w) := by
  have H := Lib.hid (computed3_any a b w hG ha hb)
  clear hG
  go_enter Tryz.func35, Tryz.ntmps35
  go_wp2_with (go_at_call 69; refine H.out.mono ?_; rintro e w1 ⟨rfl, hE⟩)
  go_ret2
  exact ⟨rfl, hE⟩
end Go.Proofs.YtpfanpkinlklnaaGreatDoor
/- The program's Floor and Ceil. -/
namespace Go.Proofs.YtpfanpkinlklnaaGreatDoor
open Go.RowKit
open Go.Lib (decDigits itoa)

theorem floor_bad {a : Txt} (h : fracE a ≠ 0) : floorR a = ([], fracE a) := by unfold floorR ifOk badR; rw [if_neg h]
theorem floor_res {a : Txt} (h : fracE a = 0) : floorR a = resQ (numQ (numOf a).1 (if (numOf a).1 && decide ((numOf a).2.1 % (numOf a).2.2 ≠ 0) then (numOf a).2.1 / (numOf a).2.2 + 1 else (numOf a).2.1 / (numOf a).2.2) 1) := by
  obtain ⟨h1, h2, h3, h4, h5, h6, _⟩ := frac_parts h
  rw [intV_abs] at h6
  unfold floorR ifOk
  rw [if_pos h, ← numOf_val]
  unfold valQ
  have h7 : Nat.gcd (numOf a).2.1 (numOf a).2.2 = 1 := h6
  rw [num_floor _ (numOf_len h).2 h7]
theorem floor_small {a : Txt} (h : fracE a = 0) : (numOf a).2.1 < 10 ^ 60 ∧ 0 < (numOf a).2.2 := by
  obtain ⟨h1, h2, h3, h4, h5, h6, _⟩ := frac_parts h
  rw [intV_abs] at h2
  exact ⟨h2, h4⟩

theorem toB_lit : [1] = toB 1000000000 1 := (toB_one (by omega) (by omega) (by omega)).symm
theorem cells1u (w : World) (t : TypeId) : CellsN .u64 (w.alloc (.cells #[.int .u64 1] t)) (some ⟨w.heap.size, 0, none⟩) [1] := by
  have h := cells_lit w t
  rw [← toB_lit] at h
  exact h
set_option maxHeartbeats 4000000 in
set_option maxRecDepth 100000 in
theorem floor_any (a : Txt) (w : World) (hG : Glob w) (ha : a.length ≤ 400) :
    Calls Tryz.prog 22 #[txt a] w (ResP (floorR a) w) := by
  have HPA := Lib.hid (parsed_any a w hG ha)
  have HG := Lib.hid hG
  clear hG
  unfold ResP
  go_enter Tryz.func22, Tryz.ntmps22
  go_wp2_with fail
  refine HPA.out.mono ?_
  rintro e w1 ⟨v1, rfl, ⟨s1, ta, tn, tc, ba, bn, bc, rfl⟩, hn1, hE⟩
  have HN1 := Lib.hid hn1
  clear hn1 HPA
  by_cases ea : fracE a = 0
  rotate_left
  · have HR := Lib.hid (floor_bad ea)
    have hne : (((fracE a : Nat) : Int) != 0) = true := by rw [bne_iff_ne]; omega
    clear HN1
    generalize fracE a = n at *
    go_wp2_with fail
    go_ret2
    exact ⟨by rw [HR.out]; rfl, (by repeat (first | with_reducible exact Ext.refl _ | with_reducible assumption | with_reducible apply Ext.drewN | with_reducible apply Ext.drew | with_reducible apply Ext.alloc | ((with_reducible refine Ext.set ?_ ?_ _); rotate_left; first | omega | (simp; omega)) | (with_reducible refine Ext.trans ?_ (by with_reducible assumption))))⟩
  obtain ⟨xa, xc, ya, yc, hag, hca, hcb⟩ := HN1.out ea
  obtain ⟨hx, hy⟩ := floor_small ea
  have HR := Lib.hid (floor_res ea)
  have hlen := (numOf_len ea).1
  rw [ea]
  clear ea HN1
  generalize numOf a = NA at *
  obtain ⟨s, t, d⟩ := NA
  dsimp only at hag hca hcb hx hy HR hlen
  simp only [Value.agg.injEq, Array.mk.injEq, List.cons.injEq, Value.bool.injEq, Value.slice.injEq, and_true] at hag
  obtain ⟨rfl, ⟨rfl, rfl, rfl⟩, rfl, rfl, rfl⟩ := hag
  have hne : (((0 : Nat) : Int) != 0) = false := rfl
  obtain ⟨hl1, hl2⟩ := hlen
  dsimp only at hl1 hl2
  have hql : (toB 1000000000 (t / d)).length ≤ 40 := toB_len (by omega) 40 (by have := Nat.div_le_self t d; omega)
  have hql1 : (toB 1000000000 (t / d + 1)).length ≤ 40 := toB_len (by omega) 40 (by have := Nat.div_le_self t d; omega)
  have HO := Lib.hid (fun W (hW : Ext w1 W) => over_any t d _ _ ta ba tc bc W rfl rfl hy (by omega) (by omega) (hca.ext hW) (hcb.ext hW))
  have HLZ : Hid (t % d = 0 → (toB 1000000000 (t % d)).length = 0) := fun h => len_zero h
  have HLP : Hid (t % d ≠ 0 → 0 < (toB 1000000000 (t % d)).length) := fun h => len_pos h
  have HL1 : Hid ((toB 1000000000 1).length ≤ 90) := by show _ ≤ _; rw [toB_one (by omega) (by omega) (by omega)]; simp
  have H1L : Hid ((toB 1000000000 1).length = 1) := by show _ = _; rw [toB_one (by omega) (by omega) (by omega)]; rfl
  generalize t / d = q at *
  generalize t % d = r at *
  have EV : Ext w1 (w1.alloc (.cells #[.bool s1, .slice ta (toB 1000000000 t).length tc, .slice ba (toB 1000000000 d).length bc] 72)) := (by repeat (first | with_reducible exact Ext.refl _ | with_reducible assumption | with_reducible apply Ext.drewN | with_reducible apply Ext.drew | with_reducible apply Ext.alloc | ((with_reducible refine Ext.set ?_ ?_ _); rotate_left; first | omega | (simp; omega)) | (with_reducible refine Ext.trans ?_ (by with_reducible assumption))))
  have X : Num3 w1.heap.size (w1.alloc (.cells #[.bool s1, .slice ta (toB 1000000000 t).length tc, .slice ba (toB 1000000000 d).length bc] 72)) (.bool s1) (.slice ta (toB 1000000000 t).length tc) (.slice ba (toB 1000000000 d).length bc) := ⟨by go_simp, by go_simp, by go_simp, by go_simp, by go_simp, by go_simp⟩
  have E := hE.trans EV
  clear hE hca hcb
  go_wp2_with fail
  have HV := HO.out _ EV
  clear HO
  generalize hnb : w1.heap.size = nb at X ⊢
  generalize w1.alloc (.cells #[.bool s1, .slice ta (toB 1000000000 t).length tc, .slice ba (toB 1000000000 d).length bc] 72) = W1 at X E HV ⊢
  clear EV hnb
  refine HV.mono ?_
  rintro e w2 ⟨v2, u2, rfl, o2, p2, _, _, e2⟩
  obtain ⟨qa, qc, rfl, hqc, _, _⟩ := o2.reads
  obtain ⟨ra, rc, rfl, _, _, _⟩ := p2.reads
  replace X := X.ext e2
  replace E := E.trans e2
  have CQ := Lib.hid hqc
  clear o2 p2 e2 hqc HV
  obtain ⟨x0, x1, x2, g0, g1, g2⟩ := X
  by_cases hcase : s1 = true ∧ r ≠ 0
  · obtain ⟨rfl, hr0⟩ := hcase
    have hrl := HLP.out hr0
    have HRR : Hid (floorR a = resQ (numQ true (q + 1) 1)) := by
      show _ = _
      rw [HR.out, decide_eq_true hr0]; rfl
    generalize (toB 1000000000 r).length = rn at *
    clear HR HLZ HLP hr0
    go_wp2_with fail
    refine (plus_any q 1 _ [1] qa _ qc 1 _ rfl toB_lit (by omega) (by simp) (CQ.out.ext ((Ext.refl w2).alloc _)) (cells1u w2 91)).mono ?_
    rintro e w3 ⟨v3, rfl, o3, _, e3⟩
    obtain ⟨pa, pc, rfl, hpc, _, _⟩ := o3.reads
    have E3 : Ext w2 w3 := ((Ext.refl w2).alloc _).trans e3
    have X := (Num3.mk x0 x1 x2 g0 g1 g2).ext E3
    replace E := E.trans E3
    have CP := Lib.hid (hpc.ext ((Ext.refl w3).alloc (.cells #[.int .u64 1] 91)))
    have C1 := Lib.hid (cells_lit w3 91)
    clear o3 e3 E3 hpc x0 x1 x2 g0 g1 g2
    obtain ⟨x0, x1, x2, g0, g1, g2⟩ := X
    go_wp2_with fail
    have HW := Lib.hid (written_any true (q + 1) 1 (.agg #[.bool true, .slice pa (toB 1000000000 (q + 1)).length pc, .slice (some ⟨w3.heap.size, 0, none⟩) 1 1]) _ ⟨pa, pc, some ⟨w3.heap.size, 0, none⟩, 1, by rw [H1L.out], CP.out, C1.out⟩ (by omega) (HG.out.ext (E.trans ((Ext.refl w3).alloc _))) (by omega) HL1.out)
    refine HW.out.mono ?_
    rintro e w8 ⟨rfl, e8⟩
    have E8 := (E.trans ((Ext.refl w3).alloc _)).trans e8
    clear HW e8 E CP C1 x0 x1 x2 g0 g1 g2
    go_wp2_with fail
    go_ret2
    exact ⟨by rw [HRR.out]; rfl, E8⟩
  · have HRR : Hid (floorR a = resQ (numQ s1 q 1)) := by
      show _ = _
      rw [HR.out]
      cases s1 with
      | false => rfl
      | true =>
        have hr0 : r = 0 := Decidable.byContradiction fun h => hcase ⟨rfl, h⟩
        rw [hr0]; rfl
    have CP := Lib.hid (CQ.out.ext ((Ext.refl w2).alloc (.cells #[.int .u64 1] 91)))
    have C1 := Lib.hid (cells_lit w2 91)
    cases s1 with
    | false =>
      clear HR HLZ HLP hcase
      generalize (toB 1000000000 r).length = rn at *
      go_wp2_with fail
      have HW := Lib.hid (written_any false (q) 1 (.agg #[.bool false, .slice qa (toB 1000000000 (q)).length qc, .slice (some ⟨w2.heap.size, 0, none⟩) 1 1]) _ ⟨qa, qc, some ⟨w2.heap.size, 0, none⟩, 1, by rw [H1L.out], CP.out, C1.out⟩ (by omega) (HG.out.ext (E.trans ((Ext.refl w2).alloc _))) (by omega) HL1.out)
      refine HW.out.mono ?_
      rintro e w8 ⟨rfl, e8⟩
      have E8 := (E.trans ((Ext.refl w2).alloc _)).trans e8
      clear HW e8 E CP C1 x0 x1 x2 g0 g1 g2
      go_wp2_with fail
      go_ret2
      exact ⟨by rw [HRR.out]; rfl, E8⟩
    | true =>
      have hr0 : r = 0 := Decidable.byContradiction fun h => hcase ⟨rfl, h⟩
      have hrl := HLZ.out hr0
      clear HR HLZ HLP hcase hr0
      generalize (toB 1000000000 r).length = rn at *
      subst hrl
      go_wp2_with fail
      have HW := Lib.hid (written_any true (q) 1 (.agg #[.bool true, .slice qa (toB 1000000000 (q)).length qc, .slice (some ⟨w2.heap.size, 0, none⟩) 1 1]) _ ⟨qa, qc, some ⟨w2.heap.size, 0, none⟩, 1, by rw [H1L.out], CP.out, C1.out⟩ (by omega) (HG.out.ext (E.trans ((Ext.refl w2).alloc _))) (by omega) HL1.out)
      refine HW.out.mono ?_
      rintro e w8 ⟨rfl, e8⟩
      have E8 := (E.trans ((Ext.refl w2).alloc _)).trans e8
      clear HW e8 E CP C1 x0 x1 x2 g0 g1 g2
      go_wp2_with fail
      go_ret2
      exact ⟨by rw [HRR.out]; rfl, E8⟩
end Go.Proofs.YtpfanpkinlklnaaGreatDoor
/- Ceil as the opposite of the floor of the opposite. -/
namespace Go.Proofs.YtpfanpkinlklnaaGreatDoor
open Go.RowKit
open Go.Lib (decDigits itoa)

theorem dec_len60 {n : Nat} (h : n < 10 ^ 60) : (decDigits n).length ≤ 60 := (digits_len_le n 60 (by omega)).2 h
theorem fracT_len {q : Rat} (h : FitQ q) : (fracT q).length ≤ 122 := by
  unfold fracT
  have h1 := dec_len60 h.1
  have h2 := dec_len60 h.2
  rw [List.length_append, itoa_eq]
  have h3 : (if q.num < 0 then 45 :: decDigits q.num.natAbs else decDigits q.num.natAbs).length ≤ 61 := by
    split
    · rw [List.length_cons]; omega
    · omega
  have h4 : (if q.den = 1 then [] else 47 :: decDigits q.den).length ≤ 61 := by
    split
    · simp
    · rw [List.length_cons]; omega
  omega
theorem frac_len {a : Txt} (h : fracE a = 0) : a.length ≤ 122 := by rw [← frac_back h]; exact fracT_len (frac_fit h)
theorem madeT_len (q : Rat) : (madeT q).length ≤ 122 := by
  unfold madeT
  split
  · rename_i h; exact fracT_len h
  · simp
theorem fit_neg {q : Rat} (h : FitQ q) : FitQ (-q) := by
  have e : (-q).num = -q.num := rfl
  exact ⟨by rw [e, Int.natAbs_neg]; exact h.1, h.2⟩
theorem made_right4 {q : Rat} (h : FitQ q) : madeT q = fracT q ∧ madeE q = 0 ∧ fracE (madeT q) = 0 ∧ fracQ (madeT q) = q := by
  obtain ⟨h1, h2⟩ := frac_of h
  unfold madeT madeE
  rw [if_pos h, if_pos h]
  exact ⟨rfl, rfl, h1, h2⟩
theorem made_wrong4 {q : Rat} (h : ¬ FitQ q) : madeT q = [] ∧ madeE q = 11 := by
  unfold madeT madeE
  rw [if_neg h, if_neg h]
  exact ⟨rfl, rfl⟩
theorem neg_right {a : Txt} (h : fracE a = 0) : (negR a).2 = 0 ∧ fracE (negR a).1 = 0 ∧ fracQ (negR a).1 = -fracQ a := by
  obtain ⟨_, h2, h3, h4⟩ := made_right4 (fit_neg (frac_fit h))
  rw [neg_res h]
  exact ⟨h2, h3, h4⟩
theorem ceil_bad {a : Txt} (h : fracE a ≠ 0) : ceilR a = ([], fracE a) := by unfold ceilR ifOk badR; rw [if_neg h]
theorem rat_neg_cast (f : Int) : ((-f : Int) : Rat) = -(f : Rat) := Rat.intCast_neg f
theorem ceil_steps {a : Txt} (h : fracE a = 0) : ((floorR (negR a).1).2 ≠ 0 → ceilR a = ([], (floorR (negR a).1).2)) ∧
    ((floorR (negR a).1).2 = 0 → fracE (floorR (negR a).1).1 = 0 ∧ ceilR a = negR (floorR (negR a).1).1) := by
  obtain ⟨_, h2, h3⟩ := neg_right h
  have hf : floorR (negR a).1 = resQ ((-fracQ a).floor : Rat) := by
    show ifOk (fracE (negR a).1) badR (resQ ((fracQ (negR a).1).floor : Rat)) = _
    unfold ifOk
    rw [if_pos h2, h3]
  have hc : ceilR a = resQ (-((-fracQ a).floor : Rat)) := by
    unfold ceilR ifOk
    rw [if_pos h, Rat.ceil_eq_neg_floor_neg, rat_neg_cast]
  rw [hf, hc]
  generalize ((-fracQ a).floor : Rat) = f
  by_cases hfit : FitQ f
  · obtain ⟨_, k2, k3, k4⟩ := made_right4 hfit
    refine ⟨fun hn => absurd k2 hn, fun _ => ⟨k3, ?_⟩⟩
    show _ = negR (madeT f)
    rw [neg_res k3, k4]
  · obtain ⟨_, k2⟩ := made_wrong4 hfit
    have hfit2 : ¬ FitQ (-f) := fun hh => hfit (by have := fit_neg hh; rwa [Rat.neg_neg] at this)
    obtain ⟨m1, m2⟩ := made_wrong4 hfit2
    refine ⟨fun _ => ?_, fun hh => ?_⟩
    · show (madeT (-f), madeE (-f)) = ([], madeE f)
      rw [m1, m2, k2]
    · have : madeE f = 0 := hh
      omega

set_option maxHeartbeats 4000000 in
set_option maxRecDepth 100000 in
theorem ceil_any (a : Txt) (w : World) (hG : Glob w) (ha : a.length ≤ 400) :
    Calls Tryz.prog 24 #[txt a] w (ResP (ceilR a) w) := by
  have HN := Lib.hid (neg_any a w hG ha)
  have HG := Lib.hid hG
  clear hG
  unfold ResP at HN ⊢
  go_enter Tryz.func24, Tryz.ntmps24
  go_wp2_with fail
  refine HN.out.mono ?_
  rintro e w1 ⟨rfl, hE⟩
  by_cases ea : fracE a = 0
  rotate_left
  · have HR := Lib.hid (ceil_bad ea)
    have HR2 := Lib.hid (neg_bad ea)
    have hne : (((fracE a : Nat) : Int) != 0) = true := by rw [bne_iff_ne]; omega
    rw [HR2.out]
    clear ea HN
    generalize fracE a = n at *
    go_wp2_with fail
    go_ret2
    exact ⟨by rw [HR.out]; rfl, hE⟩
  obtain ⟨h1, h2, _⟩ := neg_right ea
  obtain ⟨k1, k2⟩ := ceil_steps ea
  have HF := Lib.hid (floor_any (negR a).1 w1 (HG.out.ext hE) (Nat.le_trans (frac_len h2) (by omega)))
  have K1 := Lib.hid k1
  have K2 := Lib.hid k2
  rw [h1]
  clear h1 h2 ea k1 k2 HN
  have hne0 : (((0 : Nat) : Int) != 0) = false := rfl
  generalize (negR a).1 = b at *
  unfold ResP at HF
  go_wp2_with fail
  refine HF.out.mono ?_
  rintro e w2 ⟨rfl, hE2⟩
  by_cases eb : (floorR b).2 = 0
  rotate_left
  · have HR := Lib.hid (K1.out eb)
    have hne : ((((floorR b).2 : Nat) : Int) != 0) = true := by rw [bne_iff_ne]; omega
    clear eb HF K1 K2
    generalize (floorR b).2 = n at *
    go_wp2_with fail
    go_ret2
    exact ⟨by rw [HR.out]; rfl, hE.trans hE2⟩
  obtain ⟨m1, m2⟩ := K2.out eb
  have HR := Lib.hid m2
  have HC := Lib.hid (neg_any (floorR b).1 w2 (HG.out.ext (hE.trans hE2)) (Nat.le_trans (frac_len m1) (by omega)))
  rw [eb]
  unfold ResP at HC
  clear eb m1 m2 HF K1 K2
  generalize (floorR b).1 = c at *
  go_wp2_with fail
  refine HC.out.mono ?_
  rintro e w3 ⟨rfl, hE3⟩
  go_wp2_with fail
  go_ret2
  exact ⟨by rw [HR.out]; rfl, (hE.trans hE2).trans hE3⟩
end Go.Proofs.YtpfanpkinlklnaaGreatDoor
/- The examples of the chapter: awake; and the reference's Few. -/
namespace Go.Proofs.YtpfanpkinlklnaaGreatDoor
open Go.RowKit
open Go.Lib (decDigits itoa)

theorem made_is {a : Txt} {q : Rat} (h : fracE a = 0) (e : fracQ a = q) : resQ q = (a, 0) := by
  have hf := frac_fit h
  rw [e] at hf
  obtain ⟨k1, k2, _⟩ := made_right4 hf
  unfold resQ
  rw [k1, k2, ← e, frac_back h]
theorem op_is {a b c : Txt} {q : Rat} (ha : fracE a = 0) (hb : fracE b = 0) (h : fracE c = 0) (e : fracQ c = q) : ifOk (bothE a b) badR (resQ q) = (c, 0) := by
  unfold ifOk
  rw [if_pos (bothE_zero ha hb)]
  exact made_is h e
theorem ex_add : addS [51, 47, 50, 48] [50, 47, 49, 53] = ([49, 55, 47, 54, 48], 0) := op_is (by decide) (by decide) (by decide) (by decide +kernel)
theorem ex_sub : subS [51, 47, 50, 48] [50, 47, 49, 53] = ([49, 47, 54, 48], 0) := op_is (by decide) (by decide) (by decide) (by decide +kernel)
theorem ex_mul : mulS [51, 47, 50, 48] [50, 47, 49, 53] = ([49, 47, 53, 48], 0) := op_is (by decide) (by decide) (by decide) (by decide +kernel)
theorem ex_div : divS [51, 47, 50, 48] [50, 47, 49, 53] = ([57, 47, 56], 0) := by
  unfold divS ifOk
  rw [if_pos (bothE_zero (by decide) (by decide)), if_neg (by decide)]
  exact made_is (by decide) (by decide +kernel)
theorem ex_floor : floorR [45, 49, 49, 47, 52] = ([45, 51], 0) := by
  unfold floorR ifOk
  rw [if_pos (by decide)]
  exact made_is (by decide) (by decide +kernel)
theorem ex_ceil : ceilR [45, 49, 49, 47, 52] = ([45, 50], 0) := by
  unfold ceilR ifOk
  rw [if_pos (by decide)]
  exact made_is (by decide) (by decide +kernel)
theorem itoa_is {s : Txt} {n : Int} (h : IntS s) (e : intV s = n) : itoa n = s := by rw [← e, int_back h]
theorem ex_of : makeR (itoa 26) (itoa (-10)) = ([45, 49, 51, 47, 53], 0) := by
  rw [itoa_is (s := [50, 54]) (by decide) (by decide), itoa_is (s := [45, 49, 48]) (by decide) (by decide)]
  unfold makeR ifOk
  rw [if_pos (by decide), if_pos (by decide), if_neg (by decide)]
  exact made_is (by decide) (by decide +kernel)
theorem ex_form : fracE [49, 50, 47, 56] = 3 ∧ fracE [52, 47, 49] = 3 := ⟨by decide, by decide⟩
theorem ex_whole : itoa (-7) = [45, 55] := itoa_is (by decide) (by decide)

set_option maxHeartbeats 8000000 in
set_option maxRecDepth 100000 in
theorem awake_any (w : World) (hG : Glob w) : Calls Tryz.prog 13 #[] w fun e w' => e = .returned (.bool true) ∧ Ext w w' := by
  have HG := Lib.hid hG
  have X1 : Hid (∀ W, Ext w W → Calls Tryz.prog 29 #[txt [51, 47, 50, 48], txt [50, 47, 49, 53]] W (ResP ([49, 55, 47, 54, 48], 0) W)) := fun W h => by rw [← ex_add]; exact add_any _ _ W (HG.out.ext h) (by decide) (by decide)
  have X2 : Hid (∀ W, Ext w W → Calls Tryz.prog 31 #[txt [51, 47, 50, 48], txt [50, 47, 49, 53]] W (ResP ([49, 47, 54, 48], 0) W)) := fun W h => by rw [← ex_sub]; exact sub_any _ _ W (HG.out.ext h) (by decide) (by decide)
  have X3 : Hid (∀ W, Ext w W → Calls Tryz.prog 33 #[txt [51, 47, 50, 48], txt [50, 47, 49, 53]] W (ResP ([49, 47, 53, 48], 0) W)) := fun W h => by rw [← ex_mul]; exact mul_any _ _ W (HG.out.ext h) (by decide) (by decide)
  have X4 : Hid (∀ W, Ext w W → Calls Tryz.prog 35 #[txt [51, 47, 50, 48], txt [50, 47, 49, 53]] W (ResP ([57, 47, 56], 0) W)) := fun W h => by rw [← ex_div]; exact div_any _ _ W (HG.out.ext h) (by decide) (by decide)
  have X5 : Hid (∀ W, Ext w W → Calls Tryz.prog 22 #[txt [45, 49, 49, 47, 52]] W (ResP ([45, 51], 0) W)) := fun W h => by rw [← ex_floor]; exact floor_any _ W (HG.out.ext h) (by decide)
  have X6 : Hid (∀ W, Ext w W → Calls Tryz.prog 24 #[txt [45, 49, 49, 47, 52]] W (ResP ([45, 50], 0) W)) := fun W h => by rw [← ex_ceil]; exact ceil_any _ W (HG.out.ext h) (by decide)
  have X7 : Hid (∀ W, Ext w W → Calls Tryz.prog 16 #[.int .i64 26, .int .i64 (-10)] W (ResP ([45, 49, 51, 47, 53], 0) W)) := fun W h => by rw [← ex_of]; exact of_any _ _ W (HG.out.ext h) (by decide) (by decide) (by decide) (by decide)
  have X8 : Hid (∀ W, Ext w W → Calls Tryz.prog 44 #[txt [49, 50, 47, 56]] W fun e w' => e = .returned (.int .i64 3) ∧ Ext W w') := fun W h => by
    have h1 := check_any [49, 50, 47, 56] W (HG.out.ext h) (by decide)
    rw [ex_form.1] at h1; exact h1
  have X9 : Hid (∀ W, Ext w W → Calls Tryz.prog 44 #[txt [52, 47, 49]] W fun e w' => e = .returned (.int .i64 3) ∧ Ext W w') := fun W h => by
    have h1 := check_any [52, 47, 49] W (HG.out.ext h) (by decide)
    rw [ex_form.2] at h1; exact h1
  have X10 : Hid (∀ W, Ext w W → Calls Tryz.prog 18 #[.int .i64 (-7)] W fun e w' => e = .returned (txt [45, 55]) ∧ Ext W w') := fun W h => by
    rw [← ex_whole]; exact whole_any _ W (HG.out.ext h) (by decide) (by decide)
  clear hG
  unfold ResP at X1 X2 X3 X4 X5 X6 X7
  have E := Ext.refl w
  go_enter Tryz.func13, Tryz.ntmps13
  go_wp2_with fail
  refine (X1.out _ E).mono ?_
  rintro e w1 ⟨rfl, h⟩
  replace E := E.trans h
  clear h X1
  go_wp2_with fail
  refine (X2.out _ E).mono ?_
  rintro e w2 ⟨rfl, h⟩
  replace E := E.trans h
  clear h X2
  go_wp2_with fail
  refine (X3.out _ E).mono ?_
  rintro e w3 ⟨rfl, h⟩
  replace E := E.trans h
  clear h X3
  go_wp2_with fail
  refine (X4.out _ E).mono ?_
  rintro e w4 ⟨rfl, h⟩
  replace E := E.trans h
  clear h X4
  go_wp2_with fail
  refine (X5.out _ E).mono ?_
  rintro e w5 ⟨rfl, h⟩
  replace E := E.trans h
  clear h X5
  go_wp2_with fail
  refine (X6.out _ E).mono ?_
  rintro e w6 ⟨rfl, h⟩
  replace E := E.trans h
  clear h X6
  go_wp2_with fail
  refine (X7.out _ E).mono ?_
  rintro e w7 ⟨rfl, h⟩
  replace E := E.trans h
  clear h X7
  go_wp2_with fail
  refine (X8.out _ E).mono ?_
  rintro e w8 ⟨rfl, h⟩
  replace E := E.trans h
  clear h X8
  go_wp2_with fail
  refine (X9.out _ E).mono ?_
  rintro e w9 ⟨rfl, h⟩
  replace E := E.trans h
  clear h X9
  go_wp2_with fail
  refine (X10.out _ E).mono ?_
  rintro e w10 ⟨rfl, h⟩
  replace E := E.trans h
  clear h X10
  go_wp2_with fail
  go_ret
  exact ⟨rfl, E⟩
set_option maxHeartbeats 2000000 in
theorem fewR_any (s : Txt) (w : World) : Calls Tryz.prog 12 #[txt s] w fun e w' => e = .returned (.bool (decide (s.length ≤ 180))) ∧ w' = w := by
  have HB : Hid (decide ((s.length : Int) ≤ 180) = decide (s.length ≤ 180)) := by
    show _ = _
    exact decide_eq_decide.2 (by omega)
  go_enter Tryz.func12, Tryz.ntmps12
  go_wp2
  go_ret
  exact ⟨ret_bool HB.out, rfl⟩
end Go.Proofs.YtpfanpkinlklnaaGreatDoor
/- What the rows' list of package variables gives a walk, and a world in which it holds. -/
namespace Go.Proofs.YtpfanpkinlklnaaGreatDoor
open Go.ChangeShapes Go.WideShapes Go.ChangeAt Go.RowKit

theorem own : ownKnob Tryz.prog.godebug = none := by kernel_rfl
theorem gTab : Tryz.prog.globalNamed "internal/strconv.uint64pow10" = some 3 := by kernel_rfl
theorem gTabT : (Tryz.prog.globals[3]?).map (·.type) = some 196 := by kernel_rfl
theorem cellsTab : Tryz.prog.cellsOf 196 = 20 := by kernel_rfl
theorem cellsU64 : Tryz.prog.cellsOf 91 = 1 := by kernel_rfl
theorem gRng : Tryz.prog.globalNamed "strconv.ErrRange" = some 2 := by kernel_rfl
theorem gRngT : (Tryz.prog.globals[2]?).map (·.type) = some 109 := by kernel_rfl
theorem gSyn : Tryz.prog.globalNamed "strconv.ErrSyntax" = some 1 := by kernel_rfl
theorem gSynT : (Tryz.prog.globals[1]?).map (·.type) = some 109 := by kernel_rfl
theorem starE : "*" ++ "errors.errorString" = "*errors.errorString" := by decide
theorem rowE (u : TypeId) (h : Tryz.prog.typeName? 3 u = some "*errors.errorString") : u = 201 :=
  typeName_ptr_named (nm := "errors.errorString") (by rw [starE]; kernel_rfl) (by kernel_rfl) (by decide) u (by rw [starE]; exact h)
theorem cellsErr : Tryz.prog.cellsOf 203 = 1 := by kernel_rfl
theorem cellsStr : Tryz.prog.cellsOf 9 = 1 := by kernel_rfl

/-- what the rows' list gives -/
theorem glob_of {W : World} (hs : W.ShapedOpen Tryz.prog) (hL : laidMetH Tryz.prog Rows.fractionMakesRow.laid W) : Glob W := by
  have hP : laidMet Tryz.prog Rows.fractionMakesRow.laid W := by
    rw [← MakeChecks.laidMetH_plain _ _ _ (by kernel_rfl)]; exact hL
  have hP2 := hP.tail.tail
  have hP4 := hP2.tail.tail
  have hP5 := hP4.tail
  obtain ⟨a0, _, h0, _⟩ := laid_sentinel hP4 gRng gRngT Tryz.underlying109 rowE Tryz.underlying201 Tryz.underlying203 rfl rfl Tryz.underlying9 cellsErr cellsStr
  obtain ⟨a1, _, h1, _⟩ := laid_sentinel hP5 gSyn gSynT Tryz.underlying109 rowE Tryz.underlying201 Tryz.underlying203 rfl rfl Tryz.underlying9 cellsErr cellsStr
  exact ⟨cell_of_shapedOpen_int (zero := #[.int .i64 0]) (t := 3) hs (of_decide_eq_true (by kernel_rfl)) (by kernel_rfl) rfl (by kernel_rfl) (by kernel_rfl) Tryz.underlying3,
    Lib.tabIs_of_head gTab gTabT Tryz.underlying196 Tryz.underlying91 cellsU64 cellsTab hP2, ⟨_, _, h1⟩, ⟨_, _, h0⟩⟩

/-- the cells of a datum -/
def flatD : Nat → DataW Unit → List Value
  | _ + 1, .lit (.int k z) => [.int k z]
  | n + 1, .agg ds => ds.flatMap (flatD n)
  | _, _ => []
def putC (cs : List Value) : Obj → Obj
  | .cells _ t frozen => .cells ⟨cs⟩ t frozen
  | o => o
noncomputable def lowB : Nat := (World.holding Tryz.prog default ⟨#[], #[], []⟩).heap.size
def rngS : ByteArray := ⟨#[118, 97, 108, 117, 101, 32, 111, 117, 116, 32, 111, 102, 32, 114, 97, 110, 103, 101]⟩
def synS : ByteArray := ⟨#[105, 110, 118, 97, 108, 105, 100, 32, 115, 121, 110, 116, 97, 120]⟩
/-- a world in which the list holds -/
noncomputable def laidWorld (os : Os) : World :=
  let w0 := World.holding Tryz.prog os ⟨#[.cells #[.string rngS] 203, .cells #[.string synS] 203], #[], []⟩
  { w0 with heap := (((((((w0.heap.modify 6 (putC (flatD 3 Rows.laid_math_bits_deBruijn32tab))).modify 7 (putC (flatD 3 Rows.laid_math_bits_deBruijn64tab))).modify
      3 (putC (flatD 3 Rows.laid_internal_strconv_uint64pow10))).modify 5 (putC (flatD 3 Rows.laid_unicode_utf8_acceptRanges))).modify
      2 (putC [.iface 201 (.pointer (some ⟨lowB, 0, none⟩))])).modify 1 (putC [.iface 201 (.pointer (some ⟨lowB + 1, 0, none⟩))])).modify
      4 (putC (flatD 3 Rows.laid_unicode_utf8_first))) }
theorem laid_met (os : Os) (args : Array Value) : laidMet Tryz.prog Rows.fractionMakesRow.laid ((laidWorld os).forCall (fun _ _ => 0) ⟨#[], args, []⟩).memory :=
  laidMet_of_run' 8 (by kernel_rfl) (by kernel_rfl)
end Go.Proofs.YtpfanpkinlklnaaGreatDoor
