/- Steps of the proof: FCmpF, FPrtF, FLPar, FLPrt. No conditions. -/
import Derived.Test.YtpfanpkinlklnaaGreatDoorZFB1
import Derived.Test.YtpfanpkinlklnaaGreatDoorZFB2
import Derived.Test.YtpfanpkinlklnaaGreatDoorZFB3
import Derived.Test.YtpfanpkinlklnaaGreatDoorZFB4
import Derived.Test.YtpfanpkinlklnaaGreatDoorZFB5
import Derived.Test.YtpfanpkinlklnaaGreatDoorZFB6
import Derived.Test.YtpfanpkinlklnaaGreatDoorZFB7
import Derived.Test.YtpfanpkinlklnaaGreatDoorZFB8
import Derived.Test.YtpfanpkinlklnaaGreatDoorZFB9
import Derived.Test.YtpfanpkinlklnaaGreatDoorZFB10
import Derived.Test.YtpfanpkinlklnaaGreatDoorZFB11
import Derived.Test.YtpfanpkinlklnaaGreatDoorZFPrt1
/- The program's Compare and Parts. -/
namespace Go.Proofs.YtpfanpkinlklnaaGreatDoor
open Go.RowKit
open Go.Lib (decDigits itoa)

theorem cmp_num2 {a b : Txt} (ea : fracE a = 0) (eb : fracE b = 0) : cmpS a b = (signN (sumN (numOf a) (negN (numOf b))), 0) := by
  obtain ⟨h1, h2⟩ := sumN_val (x := numOf a) (y := negN (numOf b)) (numOf_len ea).2 (numOf_len eb).2
  have h3 : valQ (sumN (numOf a) (negN (numOf b))) = fracQ a - fracQ b := by rw [h1, negN_val, numOf_val, numOf_val, Rat.sub_eq_add_neg]
  unfold cmpS ifOk
  rw [if_pos (bothE_zero ea eb), ← h3]
  unfold valQ signN
  rw [num_sign h2]
set_option maxHeartbeats 16000000 in
set_option maxRecDepth 100000 in
theorem compareF_any (a b : Txt) (w : World) (hG : Glob w) (ha : a.length ≤ 400) (hb : b.length ≤ 400) :
    Calls Tryz.prog 37 #[txt a, txt b] w (IntP (cmpS a b).1 (cmpS a b).2 w) := by
  have HPA := Lib.hid (fun W (hW : Ext w W) => parsed_any a W (hG.ext hW) ha)
  have HPB := Lib.hid (fun W (hW : Ext w W) => parsed_any b W (hG.ext hW) hb)
  clear hG
  unfold IntP
  go_enter Tryz.func37, Tryz.ntmps37
  go_wp2_with fail
  refine (HPA.out _ (Ext.refl _)).mono ?_
  rintro e w1 ⟨v1, rfl, ⟨s1, ta, tn, tc, ba, bn, bc, rfl⟩, hn1, hE⟩
  have HN1 := Lib.hid hn1
  clear hn1 HPA
  by_cases ea : fracE a = 0
  rotate_left
  · have HR : Hid (cmpS a b = (0, fracE a)) := by show _ = _; unfold cmpS ifOk; rw [bothE_left ea, if_neg ea]
    have hne : (((fracE a : Nat) : Int) != 0) = true := by rw [bne_iff_ne]; omega
    clear HN1 HPB
    generalize fracE a = n at *
    go_wp2_with fail
    go_ret2
    exact ⟨by rw [HR.out]; rfl, (by repeat (first | with_reducible exact Ext.refl _ | with_reducible assumption | with_reducible apply Ext.drewN | with_reducible apply Ext.drew | with_reducible apply Ext.alloc | ((with_reducible refine Ext.set ?_ ?_ _); rotate_left; first | omega | (simp; omega)) | (with_reducible refine Ext.trans ?_ (by with_reducible assumption))))⟩
  have HNA := Lib.hid (HN1.out ea)
  rw [ea]
  have HEA := Lib.hid ea
  clear ea HN1
  have hne0 : (((0 : Nat) : Int) != 0) = false := rfl
  have EV : Ext w1 (w1.alloc (.cells #[.bool s1, .slice ta tn tc, .slice ba bn bc] 72)) := (by repeat (first | with_reducible exact Ext.refl _ | with_reducible assumption | with_reducible apply Ext.drewN | with_reducible apply Ext.drew | with_reducible apply Ext.alloc | ((with_reducible refine Ext.set ?_ ?_ _); rotate_left; first | omega | (simp; omega)) | (with_reducible refine Ext.trans ?_ (by with_reducible assumption))))
  have X : Num3 w1.heap.size (w1.alloc (.cells #[.bool s1, .slice ta tn tc, .slice ba bn bc] 72)) (.bool s1) (.slice ta tn tc) (.slice ba bn bc) := ⟨by go_simp, by go_simp, by go_simp, by go_simp, by go_simp, by go_simp⟩
  have E := hE.trans EV
  replace HNA := Lib.hid (HNA.out.ext EV)
  clear EV hE
  go_wp2_with fail
  obtain ⟨xb, hxb⟩ : ∃ xb, xb = w1.heap.size := ⟨_, rfl⟩
  rw [← hxb] at X ⊢
  clear hxb
  generalize (w1.alloc (.cells #[.bool s1, .slice ta tn tc, .slice ba bn bc] 72)) = W1 at X E HNA ⊢
  refine (HPB.out _ E).mono ?_
  rintro e w3 ⟨v2, rfl, ⟨s2, ua, un, uc, va, vn, vc, rfl⟩, hn2, hE⟩
  replace X := X.ext hE
  replace E := E.trans hE
  replace HNA := Lib.hid (HNA.out.ext hE)
  have HN2 := Lib.hid hn2
  clear hn2 HPB hE
  by_cases eb : fracE b = 0
  rotate_left
  · have HR : Hid (cmpS a b = (0, fracE b)) := by show _ = _; unfold cmpS ifOk; rw [bothE_right HEA.out, if_neg eb]
    have hne : (((fracE b : Nat) : Int) != 0) = true := by rw [bne_iff_ne]; omega
    clear HN2 HEA
    generalize fracE b = n at *
    go_wp2_with fail
    go_ret2
    exact ⟨by rw [HR.out]; rfl, (by repeat (first | with_reducible exact Ext.refl _ | with_reducible assumption | with_reducible apply Ext.drewN | with_reducible apply Ext.drew | with_reducible apply Ext.alloc | ((with_reducible refine Ext.set ?_ ?_ _); rotate_left; first | omega | (simp; omega)) | (with_reducible refine Ext.trans ?_ (by with_reducible assumption))))⟩
  have HNB := Lib.hid (HN2.out eb)
  have HR := Lib.hid (cmp_num2 HEA.out eb)
  have hxa := (numOf_len HEA.out).1
  have hyb := (numOf_len eb).1
  rw [eb]
  clear eb HN2 HEA
  have EV : Ext w3 (w3.alloc (.cells #[.bool s2, .slice ua un uc, .slice va vn vc] 72)) := (by repeat (first | with_reducible exact Ext.refl _ | with_reducible assumption | with_reducible apply Ext.drewN | with_reducible apply Ext.drew | with_reducible apply Ext.alloc | ((with_reducible refine Ext.set ?_ ?_ _); rotate_left; first | omega | (simp; omega)) | (with_reducible refine Ext.trans ?_ (by with_reducible assumption))))
  have Y : Num3 w3.heap.size (w3.alloc (.cells #[.bool s2, .slice ua un uc, .slice va vn vc] 72)) (.bool s2) (.slice ua un uc) (.slice va vn vc) := ⟨by go_simp, by go_simp, by go_simp, by go_simp, by go_simp, by go_simp⟩
  replace X := X.ext EV
  replace E := E.trans EV
  replace HNA := Lib.hid (HNA.out.ext EV)
  replace HNB := Lib.hid (HNB.out.ext EV)
  clear EV
  generalize numOf a = NA at *
  generalize numOf b = NB at *
  go_wp2_with fail
  obtain ⟨yb, hyb2⟩ : ∃ yb, yb = w3.heap.size := ⟨_, rfl⟩
  rw [← hyb2] at Y ⊢
  clear hyb2
  generalize (w3.alloc (.cells #[.bool s2, .slice ua un uc, .slice va vn vc] 72)) = W3 at X Y E HNA HNB ⊢
  have hdr : Ext W3 W3.drew := (by repeat (first | with_reducible exact Ext.refl _ | with_reducible assumption | with_reducible apply Ext.drewN | with_reducible apply Ext.drew | with_reducible apply Ext.alloc | ((with_reducible refine Ext.set ?_ ?_ _); rotate_left; first | omega | (simp; omega)) | (with_reducible refine Ext.trans ?_ (by with_reducible assumption))))
  replace X := X.ext hdr
  replace Y := Y.ext hdr
  replace E := E.trans hdr
  replace HNA := Lib.hid (HNA.out.ext hdr)
  replace HNB := Lib.hid (HNB.out.ext hdr)
  have hS : W3.drew.cell? ⟨xb, 0, none⟩ = some (.bool s1) ∧ W3.drew.cell? ⟨xb, 1, none⟩ = some (.slice ta tn tc) ∧ W3.drew.cell? ⟨xb, 2, none⟩ = some (.slice ba bn bc) ∧ W3.drew.cell? ⟨yb, 0, none⟩ = some (.bool s2) ∧ W3.drew.cell? ⟨yb, 1, none⟩ = some (.slice ua un uc) ∧ W3.drew.cell? ⟨yb, 2, none⟩ = some (.slice va vn vc) := ⟨X.c0, X.c1, X.c2, Y.c0, Y.c1, Y.c2⟩
  refine wp_region_heldE 99 (fun w' => w'.cell? ⟨xb, 0, none⟩ = some (.bool s1) ∧ w'.cell? ⟨xb, 1, none⟩ = some (.slice ta tn tc) ∧ w'.cell? ⟨xb, 2, none⟩ = some (.slice ba bn bc) ∧ w'.cell? ⟨yb, 0, none⟩ = some (.bool s2) ∧ w'.cell? ⟨yb, 1, none⟩ = some (.slice ua un uc) ∧ w'.cell? ⟨yb, 2, none⟩ = some (.slice va vn vc)) (by kernel_rfl) ?_
  clear hdr X Y
  generalize W3.drew = W4 at E HNA HNB hS ⊢
  ((refine wpAnyE_take (i := 0) (oi := ?_) (v := ?_) ?_ (by kernel_rfl) ?_ ?_ (by assumption) ?_; rotate_left 2; (focus ((simp only [List.getElem?_toArray, List.getElem?_cons_zero]; exact rfl))); (focus (exact fun _ _ _ h => h)); (focus (refine Or.inl ⟨by rfl, ?_⟩; intro w hSw; (try dsimp only at hSw); (first | (go_simp; done) | (go_simp; with_reducible rfl)))); (try simp only [Act.put, List.setIfInBounds_toArray, List.set_cons_zero, List.set_cons_succ])); (refine wpAnyE_take (i := 1) (oi := ?_) (v := ?_) ?_ (by kernel_rfl) ?_ ?_ (by assumption) ?_; rotate_left 2; (focus ((simp only [List.getElem?_toArray, List.getElem?_cons_succ, List.getElem?_cons_zero]; exact rfl))); (focus (exact fun _ _ _ h => h)); (focus (refine Or.inl ⟨by rfl, ?_⟩; intro w hSw; (try dsimp only at hSw); (first | (go_simp; done) | (go_simp; with_reducible rfl)))); (try simp only [Act.put, List.setIfInBounds_toArray, List.set_cons_zero, List.set_cons_succ])))
  (refine wpAnyE_one (i := 2) (o := ?_) ?_ (by kernel_rfl) (fun K hK => ?_); rotate_left; (focus ((simp only [List.getElem?_toArray, List.getElem?_cons_succ, List.getElem?_cons_zero]; exact rfl))); go_simp; go_at_call 62; refine (opposite_any NB _ _ HNB.out).mono ?_; rintro e w5 ⟨v5, rfl, h5, hE⟩; go_wp2_with fail; refine hK.out _ _ ?_ (fun hHeld => ?_); rotate_left; clear hK K; (try simp only [Act.put, List.setIfInBounds_toArray, List.set_cons_zero, List.set_cons_succ]))
  rotate_left
  · exact ⟨hE.cell hS.1, hE.cell hS.2.1, hE.cell hS.2.2.1, hE.cell hS.2.2.2.1, hE.cell hS.2.2.2.2.1, hE.cell hS.2.2.2.2.2⟩
  have hS5 : w5.cell? ⟨xb, 0, none⟩ = some (.bool s1) ∧ w5.cell? ⟨xb, 1, none⟩ = some (.slice ta tn tc) ∧ w5.cell? ⟨xb, 2, none⟩ = some (.slice ba bn bc) ∧ w5.cell? ⟨yb, 0, none⟩ = some (.bool s2) ∧ w5.cell? ⟨yb, 1, none⟩ = some (.slice ua un uc) ∧ w5.cell? ⟨yb, 2, none⟩ = some (.slice va vn vc) := ⟨hE.cell hS.1, hE.cell hS.2.1, hE.cell hS.2.2.1, hE.cell hS.2.2.2.1, hE.cell hS.2.2.2.2.1, hE.cell hS.2.2.2.2.2⟩
  replace E := E.trans hE
  replace HNA := Lib.hid (HNA.out.ext hE)
  have HV5 := Lib.hid h5
  clear hS hE h5 hHeld HNB
  (refine wpAnyE_one (i := 3) (o := ?_) ?_ (by kernel_rfl) (fun K hK => ?_); rotate_left; (focus ((simp only [List.getElem?_toArray, List.getElem?_cons_succ, List.getElem?_cons_zero]; exact rfl))); go_simp; go_at_call 76; refine (sum_any NA (negN NB) _ v5 w5 HNA.out HV5.out hxa hyb).mono ?_; rintro e w6 ⟨v6, rfl, h6, _, hE⟩; go_wp2_with fail; refine hK.out _ _ ?_ (fun hHeld => ?_); rotate_left; clear hK K; (try simp only [Act.put, List.setIfInBounds_toArray, List.set_cons_zero, List.set_cons_succ]))
  rotate_left
  · exact ⟨hE.cell hS5.1, hE.cell hS5.2.1, hE.cell hS5.2.2.1, hE.cell hS5.2.2.2.1, hE.cell hS5.2.2.2.2.1, hE.cell hS5.2.2.2.2.2⟩
  have hS6 : w6.cell? ⟨xb, 0, none⟩ = some (.bool s1) ∧ w6.cell? ⟨xb, 1, none⟩ = some (.slice ta tn tc) ∧ w6.cell? ⟨xb, 2, none⟩ = some (.slice ba bn bc) ∧ w6.cell? ⟨yb, 0, none⟩ = some (.bool s2) ∧ w6.cell? ⟨yb, 1, none⟩ = some (.slice ua un uc) ∧ w6.cell? ⟨yb, 2, none⟩ = some (.slice va vn vc) := ⟨hE.cell hS5.1, hE.cell hS5.2.1, hE.cell hS5.2.2.1, hE.cell hS5.2.2.2.1, hE.cell hS5.2.2.2.2.1, hE.cell hS5.2.2.2.2.2⟩
  replace E := E.trans hE
  have HV6 := Lib.hid h6
  clear hS5 hE h6 hHeld HNA HV5
  generalize sumN NA (negN NB) = SN at *
  (refine wpAnyE_one (i := 4) (o := ?_) ?_ (by kernel_rfl) (fun K hK => ?_); rotate_left; (focus ((simp only [List.getElem?_toArray, List.getElem?_cons_succ, List.getElem?_cons_zero]; exact rfl))); go_simp; go_at_call 75; refine (sign_any SN v6 w6 HV6.out).mono ?_; rintro e w7 ⟨rfl, hE⟩; go_wp2_with fail; refine hK.out _ _ ?_ (fun hHeld => ?_); rotate_left; clear hK K; (try simp only [Act.put, List.setIfInBounds_toArray, List.set_cons_zero, List.set_cons_succ]))
  rotate_left
  · exact ⟨hE.cell hS6.1, hE.cell hS6.2.1, hE.cell hS6.2.2.1, hE.cell hS6.2.2.2.1, hE.cell hS6.2.2.2.2.1, hE.cell hS6.2.2.2.2.2⟩
  have hS7 : w7.cell? ⟨xb, 0, none⟩ = some (.bool s1) ∧ w7.cell? ⟨xb, 1, none⟩ = some (.slice ta tn tc) ∧ w7.cell? ⟨xb, 2, none⟩ = some (.slice ba bn bc) ∧ w7.cell? ⟨yb, 0, none⟩ = some (.bool s2) ∧ w7.cell? ⟨yb, 1, none⟩ = some (.slice ua un uc) ∧ w7.cell? ⟨yb, 2, none⟩ = some (.slice va vn vc) := ⟨hE.cell hS6.1, hE.cell hS6.2.1, hE.cell hS6.2.2.1, hE.cell hS6.2.2.2.1, hE.cell hS6.2.2.2.2.1, hE.cell hS6.2.2.2.2.2⟩
  replace E := E.trans hE
  clear hS6 hE hHeld
  ((refine wpAnyE_pure (i := 5) (oi := ?_) (v := ?_) ?_ (by kernel_rfl) ?_ ?_ ?_ ?_; rotate_left 2; (focus ((simp only [List.getElem?_toArray, List.getElem?_cons_succ, List.getElem?_cons_zero]; exact rfl))); (focus (exact fun _ _ _ h => h)); (focus (refine Or.inl ⟨by rfl, ?_⟩; intro w hSw; clear hSw; (first | (go_simp; done) | (go_simp; with_reducible rfl)))); (focus (first | exact (fun _ => by assumption) | (intro hlst; exact absurd hlst (by kernel_rfl)) | (intro hlst; cases hlst))); (try simp only [Act.put, List.setIfInBounds_toArray, List.set_cons_zero, List.set_cons_succ])); (refine wpAnyE_pure (i := 6) (oi := ?_) (v := ?_) ?_ (by kernel_rfl) ?_ ?_ ?_ ?_; rotate_left 2; (focus ((simp only [List.getElem?_toArray, List.getElem?_cons_succ, List.getElem?_cons_zero]; exact rfl))); (focus (exact fun _ _ _ h => h)); (focus (refine Or.inl ⟨by rfl, ?_⟩; intro w hSw; clear hSw; (first | (go_simp; done) | (go_simp; with_reducible rfl)))); (focus (first | exact (fun _ => by assumption) | (intro hlst; exact absurd hlst (by kernel_rfl)) | (intro hlst; cases hlst))); (try simp only [Act.put, List.setIfInBounds_toArray, List.set_cons_zero, List.set_cons_succ])))
  clear hS7
  refine wpAnyE_done (by kernel_rfl) ?_ _
  go_wp2_with fail
  go_ret2
  exact ⟨by rw [HR.out]; rfl, E⟩
end Go.Proofs.YtpfanpkinlklnaaGreatDoor
/- The program's Parts. -/
namespace Go.Proofs.YtpfanpkinlklnaaGreatDoor
open Go.RowKit
open Go.Lib (decDigits itoa)

set_option maxHeartbeats 4000000 in
set_option maxRecDepth 100000 in
theorem partsF_any (a : Txt) (w : World) (hG : Glob w) (ha : a.length ≤ 400) : Calls Tryz.prog 40 #[txt a] w (ParP (partsR a) w) := by
  have HC := Lib.hid (check_any a w hG ha)
  have HCut := Lib.hid (fun W (hW : Ext w W) => Cut_any a W (hG.ext hW) (by omega))
  clear hG
  unfold ParP
  by_cases ea : fracE a = 0
  · rw [parts_ok ea]
    rw [ea] at HC
    clear ea
    have hne0 : (((0 : Nat) : Int) != 0) = false := rfl
    by_cases hs : 47 ∈ a
    · rw [if_pos hs, decide_eq_true hs] at HCut
      clear hs
      generalize topS a = n at *
      generalize lowS a = d at *
      go_enter Tryz.func40, Tryz.ntmps40
      go_wp2_with (first
        | (go_at_call 44; with_reducible refine HC.out.mono ?_; rintro e w1 ⟨rfl, hE⟩)
        | (go_at_call 81; with_reducible refine (HCut.out _ hE).mono ?_; rintro e w2 ⟨rfl, hE2⟩))
      go_ret3
      exact ⟨rfl, hE.trans hE2⟩
    · rw [if_neg hs, decide_eq_false hs] at HCut
      rw [(split_none hs).2]
      clear hs
      generalize topS a = n at *
      go_enter Tryz.func40, Tryz.ntmps40
      go_wp2_with (first
        | (go_at_call 44; with_reducible refine HC.out.mono ?_; rintro e w1 ⟨rfl, hE⟩)
        | (go_at_call 81; with_reducible refine (HCut.out _ hE).mono ?_; rintro e w2 ⟨rfl, hE2⟩))
      go_ret3
      exact ⟨rfl, hE.trans hE2⟩
  · rw [parts_bad ea]
    have hne : (((fracE a : Nat) : Int) != 0) = true := by rw [bne_iff_ne]; omega
    clear ea HCut
    generalize fracE a = n at *
    go_enter Tryz.func40, Tryz.ntmps40
    go_wp2_with (go_at_call 44; with_reducible refine HC.out.mono ?_; rintro e w1 ⟨rfl, hE⟩)
    go_ret3
    exact ⟨rfl, hE⟩
end Go.Proofs.YtpfanpkinlklnaaGreatDoor
/- The law's functions right and FractionParts. -/
namespace Go.Proofs.YtpfanpkinlklnaaGreatDoor
open Go.RowKit
open Go.Lib (decDigits itoa)

/-- short and right -/
def okS (x : Txt) : Bool := decide (x.length ≤ 10) && decide (fracE x = 0)
theorem okS_iff {x : Txt} : okS x = true ↔ x.length ≤ 10 ∧ fracE x = 0 := by unfold okS; simp
set_option maxHeartbeats 2000000 in
theorem right1_any (x : Txt) (w : World) : Calls Tryz.prog 79 #[txt x] w fun e w' => e = .returned (.bool (!okS x)) ∧ Ext w w' := by
  have HS := Lib.hid (rShort_any x w)
  by_cases h1 : x.length ≤ 10
  · have HC := Lib.hid (checkR_any x w (by omega))
    rw [decide_eq_true h1] at HS
    by_cases h2 : fracE x = 0
    · have HR : Hid ((!okS x) = false) := by show _ = _; rw [okS_iff.2 ⟨h1, h2⟩]; rfl
      rw [h2] at HC
      rw [HR.out]
      clear h1 h2 HR
      go_enter Tryz.func79, Tryz.ntmps79
      go_wp2_with (first
        | (go_at_call 80; with_reducible refine HS.out.mono ?_; rintro e w' ⟨rfl, rfl⟩)
        | (go_at_call 50; with_reducible refine HC.out.mono ?_; rintro e w1 ⟨rfl, hE⟩))
      go_ret
      exact ⟨rfl, hE⟩
    · have HR : Hid ((!okS x) = true) := by show _ = _; unfold okS; simp [h2]
      have hne : (((fracE x : Nat) : Int) != 0) = true := by rw [bne_iff_ne]; omega
      rw [HR.out]
      clear h1 h2 HR
      generalize fracE x = n at *
      go_enter Tryz.func79, Tryz.ntmps79
      go_wp2_with (first
        | (go_at_call 80; with_reducible refine HS.out.mono ?_; rintro e w' ⟨rfl, rfl⟩)
        | (go_at_call 50; with_reducible refine HC.out.mono ?_; rintro e w1 ⟨rfl, hE⟩))
      go_ret
      exact ⟨rfl, hE⟩
  · have HR : Hid ((!okS x) = true) := by show _ = _; unfold okS; simp [h1]
    rw [decide_eq_false h1] at HS
    rw [HR.out]
    clear h1 HR
    go_enter Tryz.func79, Tryz.ntmps79
    go_wp2_with (go_at_call 80; with_reducible refine HS.out.mono ?_; rintro e w' ⟨rfl, rfl⟩)
    go_ret
    exact ⟨rfl, Ext.refl _⟩
/-- where the first wrong text stands -/
def IdxP (l : List Txt) (w : World) (e : Ending) (w' : World) : Prop := ∃ z : Int, e = .returned (.int .i64 z) ∧ Ext w w' ∧ decide (0 ≤ z) = !(l.all okS)
theorem all_drop {l : List Txt} {k : Nat} (h : k < l.length) : (l.drop k).all okS = (okS (l.getD k []) && (l.drop (k + 1)).all okS) := by
  rw [drop_txt h, List.all_cons]
set_option maxHeartbeats 4000000 in
set_option maxRecDepth 100000 in
theorem index_any (l : List Txt) (a : Option Addr) (cap : Nat) (w : World) (hc : CellsT w a l) (hm : l.length ≤ 1000) :
    Calls Tryz.prog 109 #[.slice a l.length cap, .func (.func 79) #[] #[]] w (IdxP l w) := by
  have HC := Lib.hid hc
  have HF := Lib.hid (fun s W => right1_any s W)
  clear hc
  go_enter Tryz.func109, Tryz.ntmps109
  go_wp2
  go_loopw [8] (fun i wr => ∃ k : Nat, k ≤ l.length ∧ i = .int .i64 k ∧ Hid (l.all okS = (l.drop k).all okS) ∧ Ext w wr) (fun i _ => l.length - (intOf i).toNat)
  case atStart => exact ⟨0, by omega, rfl, rfl, Ext.refl _⟩
  case round =>
    obtain ⟨k, hk, rfl, HK, he⟩ := hrel
    by_cases hlt : k < l.length
    · have hki : (k : Int) < (l.length : Int) := by omega
      obtain ⟨b, off, ha, hcell⟩ := HC.out.ext he k hlt
      subst ha
      have HFX := Lib.hid (HF.out (l.getD k []))
      have hst := all_drop hlt
      by_cases hx : okS (l.getD k []) = true
      · have HK2 : Hid (l.all okS = (l.drop (k + 1)).all okS) := by show _ = _; rw [HK.out, hst, hx]; rfl
        rw [hx] at HFX
        generalize l.getD k [] = x at hcell HFX
        clear hx HK hst
        go_wp2_with (go_at_call 79; with_reducible refine (HFX.out _).mono ?_; rintro e w1 ⟨rfl, hE⟩)
        refine ⟨⟨k + 1, by omega, by go_num, HK2, he.trans hE⟩, by simp [intOf]; omega⟩
      · have hx2 : okS (l.getD k []) = false := by simpa using hx
        have HR : Hid (decide ((0 : Int) ≤ (k : Int)) = !(l.all okS)) := by
          show _ = _
          rw [HK.out, hst, hx2, decide_eq_true (by omega)]; rfl
        rw [hx2] at HFX
        generalize l.getD k [] = x at hcell HFX
        clear hx hx2 HK hst
        go_wp2_with (go_at_call 79; with_reducible refine (HFX.out _).mono ?_; rintro e w1 ⟨rfl, hE⟩)
        go_ret
        exact ⟨k, rfl, he.trans hE, HR.out⟩
    · have hki : ¬ (k : Int) < (l.length : Int) := by omega
      have HR : Hid (decide ((0 : Int) ≤ -1) = !(l.all okS)) := by
        show _ = _
        rw [HK.out, List.drop_eq_nil_of_le (by omega)]; rfl
      clear HK
      go_wp2
      go_ret
      exact ⟨-1, rfl, he, HR.out⟩
set_option maxHeartbeats 2000000 in
theorem contains_any (l : List Txt) (a : Option Addr) (cap : Nat) (w : World) (hc : CellsT w a l) (hm : l.length ≤ 1000) :
    Calls Tryz.prog 78 #[.slice a l.length cap, .func (.func 79) #[] #[]] w fun e w' => e = .returned (.bool (!(l.all okS))) ∧ Ext w w' := by
  have HI := Lib.hid (index_any l a cap w hc hm)
  clear hc
  unfold IdxP at HI
  generalize l.all okS = B at *
  go_enter Tryz.func78, Tryz.ntmps78
  go_wp2_with (go_at_call 109; refine HI.out.mono ?_; rintro e w1 ⟨z, rfl, hE, hz⟩)
  go_ret
  exact ⟨rfl, hE⟩
set_option maxHeartbeats 2000000 in
theorem rightF_any (l : List Txt) (a : Option Addr) (cap : Nat) (w : World) (hc : CellsT w a l) (hm : l.length ≤ 1000) :
    Calls Tryz.prog 39 #[.slice a l.length cap] w fun e w' => e = .returned (.bool (l.all okS)) ∧ Ext w w' := by
  have HI := Lib.hid (contains_any l a cap w hc hm)
  clear hc
  generalize l.all okS = B at *
  go_enter Tryz.func39, Tryz.ntmps39
  go_wp2_with (go_at_call 78; refine HI.out.mono ?_; rintro e w1 ⟨rfl, hE⟩)
  go_ret
  exact ⟨ret_bool (by simp), hE⟩

/-! ### A fraction is made again from its parts -/
theorem make_ints {m n : Int} (hm : m.natAbs < 10 ^ 60) (hn : n.natAbs < 10 ^ 60) (h0 : n ≠ 0) : makeR (itoa m) (itoa n) = resQ ((m : Rat) / (n : Rat)) := by
  obtain ⟨_, k2⟩ := int_of m
  obtain ⟨k3, k4⟩ := int_of n
  unfold makeR ifOk
  rw [if_pos (intE_of hm), if_pos (intE_of hn), if_neg (fun e => h0 (by rw [← k4]; exact (int_zero k3).1 e)), k2, k4]
theorem parts_law {a : Txt} {k : Int} (h : fracE a = 0) (hl : a.length ≤ 10) (hk : k ≠ 0) (h1 : -32768 ≤ k) (h2 : k ≤ 32767) :
    makeR (topS a) (lowS a) = (a, 0) ∧ divS (topS a) (lowS a) = (a, 0) ∧
    ∃ x y : Txt, mulS (topS a) (itoa k) = (x, 0) ∧ mulS (lowS a) (itoa k) = (y, 0) ∧ makeR x y = (a, 0) ∧ x.length ≤ 400 ∧ y.length ≤ 400 := by
  obtain ⟨i1, _, i3, i4, _⟩ := frac_parts h
  obtain ⟨n1, n2⟩ := frac_num h
  have hf := short_fit h hl
  obtain ⟨M, hM⟩ : ∃ M, M = intV (topS a) := ⟨_, rfl⟩
  obtain ⟨N, hN⟩ : ∃ N, N = decV (lowS a) := ⟨_, rfl⟩
  have et : topS a = itoa M := by rw [hM, int_back i1]
  have el : lowS a = itoa (N : Int) := by rw [Go.Lib.itoa_nonneg, hN, canon_back i3]
  rw [← hM] at n1
  rw [← hN] at n2 i4
  have hMb : M.natAbs < 10 ^ 10 := by rw [← n1]; exact hf.1
  have hNb : (N : Int).natAbs < 10 ^ 10 := by rw [Int.natAbs_natCast, ← n2]; exact hf.2
  have hkb : k.natAbs < 10 ^ 5 := by omega
  have gM := int_good (n := M) (K := 10) (by omega) (by omega) hMb
  have gN := int_good (n := (N : Int)) (K := 10) (by omega) (by omega) hNb
  have gk := int_good (n := k) (K := 5) (by omega) (by omega) hkb
  have hN0 : (N : Int) ≠ 0 := by omega
  have hNr : ((N : Int) : Rat) ≠ 0 := fun e => hN0 (Rat.intCast_eq_zero_iff.1 e)
  have hkr : (k : Rat) ≠ 0 := fun e => hk (Rat.intCast_eq_zero_iff.1 e)
  have hq : (M : Rat) / ((N : Int) : Rat) = fracQ a := by
    show _ = mkRat (intV (topS a)) (decV (lowS a))
    rw [← hM, ← hN, Rat.mkRat_eq_div]
    rfl
  have p60 : (10 : Nat) ^ 10 ≤ 10 ^ 60 := Nat.pow_le_pow_right (by omega) (by omega)
  have p15 : (10 : Nat) ^ (10 + 5) ≤ 10 ^ 60 := Nat.pow_le_pow_right (by omega) (by omega)
  have eM : (M : Rat) * (k : Rat) = ((M * k : Int) : Rat) := (Rat.intCast_mul _ _).symm
  have eN : ((N : Int) : Rat) * (k : Rat) = (((N : Int) * k : Int) : Rat) := (Rat.intCast_mul _ _).symm
  have mM := gM.mul gk (by omega)
  have mN := gN.mul gk (by omega)
  rw [eM, fracT_int] at mM
  rw [eN, fracT_int] at mN
  have hMk : (M * k).natAbs < 10 ^ 60 := by rw [Int.natAbs_mul]; exact Nat.lt_of_lt_of_le (pow_mul_lt hMb hkb) p15
  have hNk : ((N : Int) * k).natAbs < 10 ^ 60 := by rw [Int.natAbs_mul]; exact Nat.lt_of_lt_of_le (pow_mul_lt hNb hkb) p15
  have hNk0 : (N : Int) * k ≠ 0 := Int.mul_ne_zero hN0 hk
  have hr : ((M * k : Int) : Rat) / (((N : Int) * k : Int) : Rat) = fracQ a := by
    rw [← eM, ← eN, ← hq]
    have e1 : (M : Rat) = (M : Rat) / ((N : Int) : Rat) * ((N : Int) : Rat) := (Rat.div_mul_cancel hNr).symm
    have e2 : (M : Rat) * (k : Rat) = (M : Rat) / ((N : Int) : Rat) * (((N : Int) : Rat) * (k : Rat)) := by
      conv => lhs; rw [e1]
      rw [Rat.mul_assoc]
    rw [e2, Rat.mul_div_cancel]
    exact fun e => (Rat.mul_eq_zero.1 e).elim hNr hkr
  have ea := made_is h rfl
  rw [et, el]
  refine ⟨?_, ?_, itoa (M * k), itoa ((N : Int) * k), mM.1, mN.1, ?_, Nat.le_trans (frac_len mM.2.ok) (by omega), Nat.le_trans (frac_len mN.2.ok) (by omega)⟩
  · rw [make_ints (Nat.lt_of_lt_of_le hMb p60) (Nat.lt_of_lt_of_le hNb p60) hN0, hq, ea]
  · rw [(gM.div gN (by omega) hNr).1, hq, frac_back h]
  · rw [make_ints hMk hNk hNk0, hr, ea]
end Go.Proofs.YtpfanpkinlklnaaGreatDoor
/- The law's function FractionParts. -/
namespace Go.Proofs.YtpfanpkinlklnaaGreatDoor
open Go.RowKit
open Go.Lib (decDigits itoa)

theorem cell_new (w : World) (arr : Array Value) (t : TypeId) (i : Nat) (v : Value) (h : arr[i]? = some v) : (w.alloc (.cells arr t)).cell? ⟨w.heap.size, 0 + i, none⟩ = some v := by
  have hh : (w.alloc (.cells arr t)).heap[w.heap.size]? = some (.cells arr t) := by show (w.heap.push _)[w.heap.size]? = _; rw [Array.getElem?_push, if_pos rfl]
  have hi : i < arr.size := by
    rcases Nat.lt_or_ge i arr.size with k | k
    · exact k
    · rw [Array.getElem?_eq_none k] at h; cases h
  simp only [World.cell?, hh, Nat.zero_add]
  first | exact h | (rw [h]; rfl)
theorem cells_txts (w : World) (l : List Txt) (t : TypeId) : CellsT (w.alloc (.cells (l.map txt).toArray t)) (some ⟨w.heap.size, 0, none⟩) l := fun i hi => by
  refine ⟨w.heap.size, 0, rfl, cell_new w _ t i _ ?_⟩
  rw [getD_txt hi, List.getElem?_toArray, List.getElem?_map, List.getElem?_eq_getElem hi]
  rfl
theorem low_len {a : Txt} (h : a.length ≤ 390) : (topS a).length ≤ 400 ∧ (lowS a).length ≤ 400 := by
  constructor
  · exact Nat.le_trans (List.takeWhile_prefix _).length_le (by omega)
  · unfold lowS
    split
    · rw [List.length_tail]
      have := (List.dropWhile_suffix (l := a) (· != 47)).length_le
      omega
    · simp
set_option maxHeartbeats 8000000 in
set_option maxRecDepth 100000 in
theorem lawParts_any (a : Txt) (k : Int) (w : World) (hG : Glob w) (h1 : -32768 ≤ k) (h2 : k ≤ 32767) :
    Calls Tryz.prog 8 #[txt a, .int .i16 k] w (TrueP w) := by
  have HG := Lib.hid hG
  have HA : Hid (∀ W, Ext w W → Calls Tryz.prog 13 #[] W fun e w' => e = .returned (.bool true) ∧ Ext W w') := fun W h => awake_any W (HG.out.ext h)
  have HR := Lib.hid (rightF_any [a] (some ⟨w.heap.size, 0, none⟩) 1 _ (cells_txts w [a] 23) (by simp))
  have E1 : Ext w (w.alloc (.cells #[txt a] 23)) := (by repeat (first | with_reducible exact Ext.refl _ | with_reducible assumption | with_reducible apply Ext.drewN | with_reducible apply Ext.drew | with_reducible apply Ext.alloc | ((with_reducible refine Ext.set ?_ ?_ _); rotate_left; first | omega | (simp; omega)) | (with_reducible refine Ext.trans ?_ (by with_reducible assumption))))
  have hall : [a].all okS = okS a := by simp
  rw [hall] at HR
  clear hG hall
  unfold TrueP
  by_cases hok : okS a = true
  rotate_left
  · have hok2 : okS a = false := by simpa using hok
    rw [hok2] at HR
    clear hok hok2
    go_enter Tryz.func8, Tryz.ntmps8
    go_wp2_with fail
    refine HR.out.mono ?_
    rintro e w1 ⟨rfl, h⟩
    have E := E1.trans h
    go_wp2_with (go_at_call 13; refine (HA.out _ E).mono ?_; rintro e w3 ⟨rfl, h3⟩)
    go_ret
    exact ⟨rfl, E.trans h3⟩
  rw [hok] at HR
  by_cases hk : k = 0
  · have hkb : (k == 0) = true := by rw [hk]; rfl
    clear hok hk
    go_enter Tryz.func8, Tryz.ntmps8
    go_wp2_with fail
    refine HR.out.mono ?_
    rintro e w1 ⟨rfl, h⟩
    have E := E1.trans h
    go_wp2_with (go_at_call 13; refine (HA.out _ E).mono ?_; rintro e w3 ⟨rfl, h3⟩)
    go_ret
    exact ⟨rfl, E.trans h3⟩
  have hkb : (k == 0) = false := by rw [beq_eq_false_iff_ne]; exact hk
  have hwk : IntKind.i64.wrap k = k := by rw [IntKind.wrap_i64]; omega
  obtain ⟨hl, hf⟩ := okS_iff.1 hok
  obtain ⟨p1, p2, x, y, p3, p4, p5, hxl, hyl⟩ := parts_law hf hl hk h1 h2
  obtain ⟨ht, hlw⟩ := low_len (a := a) (by omega)
  have HP : Hid (∀ W, Ext w W → Calls Tryz.prog 40 #[txt a] W (ParP (topS a, lowS a, 0) W)) := fun W h => by rw [← parts_ok hf]; exact partsF_any a W (HG.out.ext h) (by omega)
  have HM1 : Hid (∀ W, Ext w W → Calls Tryz.prog 14 #[txt (topS a), txt (lowS a)] W (ResP (a, 0) W)) := fun W h => by rw [← p1]; exact make_any _ _ W (HG.out.ext h) ht hlw
  have HW : Hid (∀ W, Ext w W → Calls Tryz.prog 18 #[.int .i64 k] W fun e w' => e = .returned (txt (itoa k)) ∧ Ext W w') := fun W h => whole_any k W (HG.out.ext h) (by omega) (by omega)
  have hkl : (itoa k).length ≤ 400 := by
    have := itoa_len (n := k) (by omega) (by omega)
    omega
  have HX : Hid (∀ W, Ext w W → Calls Tryz.prog 33 #[txt (topS a), txt (itoa k)] W (ResP (x, 0) W)) := fun W h => by rw [← p3]; exact mul_any _ _ W (HG.out.ext h) ht hkl
  have HY : Hid (∀ W, Ext w W → Calls Tryz.prog 33 #[txt (lowS a), txt (itoa k)] W (ResP (y, 0) W)) := fun W h => by rw [← p4]; exact mul_any _ _ W (HG.out.ext h) hlw hkl
  have HM2 : Hid (∀ W, Ext w W → Calls Tryz.prog 14 #[txt x, txt y] W (ResP (a, 0) W)) := fun W h => by rw [← p5]; exact make_any _ _ W (HG.out.ext h) hxl hyl
  have HD : Hid (∀ W, Ext w W → Calls Tryz.prog 35 #[txt (topS a), txt (lowS a)] W (ResP (a, 0) W)) := fun W h => by rw [← p2]; exact div_any _ _ W (HG.out.ext h) ht hlw
  unfold ParP at HP
  unfold ResP at HM1 HX HY HM2 HD
  clear p1 p2 p3 p4 p5 hxl hyl ht hlw hkl hok hl hf hk
  generalize topS a = m at *
  generalize lowS a = n at *
  generalize itoa k = t at *
  have hb := beq_self a
  go_enter Tryz.func8, Tryz.ntmps8
  go_wp2_with fail
  refine HR.out.mono ?_
  rintro e w1 ⟨rfl, h⟩
  have E := E1.trans h
  clear h E1
  go_wp2_with (go_at_call 40; refine (HP.out _ E).mono ?_; rintro e w2 ⟨rfl, h⟩)
  replace E := E.trans h
  clear h
  go_wp2_with (go_at_call 14; refine (HM1.out _ E).mono ?_; rintro e w3 ⟨rfl, h⟩)
  replace E := E.trans h
  clear h
  go_wp2_with (go_at_call 18; refine (HW.out _ E).mono ?_; rintro e w4 ⟨rfl, h⟩)
  replace E := E.trans h
  clear h
  go_wp2_with (go_at_call 33; refine (HX.out _ E).mono ?_; rintro e w5 ⟨rfl, h⟩)
  replace E := E.trans h
  clear h
  go_wp2_with (go_at_call 18; refine (HW.out _ E).mono ?_; rintro e w6 ⟨rfl, h⟩)
  replace E := E.trans h
  clear h
  go_wp2_with (go_at_call 33; refine (HY.out _ E).mono ?_; rintro e w7 ⟨rfl, h⟩)
  replace E := E.trans h
  clear h
  go_wp2_with (go_at_call 14; refine (HM2.out _ E).mono ?_; rintro e w8 ⟨rfl, h⟩)
  replace E := E.trans h
  clear h
  go_wp2_with (go_at_call 35; refine (HD.out _ E).mono ?_; rintro e w9 ⟨rfl, h⟩)
  replace E := E.trans h
  clear h
  go_wp2_with (go_at_call 13; refine (HA.out _ E).mono ?_; rintro e w10 ⟨rfl, h⟩)
  replace E := E.trans h
  go_wp2
  go_ret
  exact ⟨rfl, E⟩
end Go.Proofs.YtpfanpkinlklnaaGreatDoor
