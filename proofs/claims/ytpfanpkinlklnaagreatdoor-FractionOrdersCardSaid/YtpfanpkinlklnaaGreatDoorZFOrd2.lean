/- Steps of the proof: FCmpF, FPrtF, FLPar, FLPrt, FSml, FSmlF, FLOrd. No conditions. -/
import Derived.Lib.AtoiAll
import Derived.Test.YtpfanpkinlklnaaGreatDoorZFB1
import Derived.Test.YtpfanpkinlklnaaGreatDoorZFB2
import Derived.Test.YtpfanpkinlklnaaGreatDoorZFB3
import Derived.Test.YtpfanpkinlklnaaGreatDoorZFB4
import Derived.Test.YtpfanpkinlklnaaGreatDoorZFB5
import Derived.Test.YtpfanpkinlklnaaGreatDoorZFB6
import Derived.Test.YtpfanpkinlklnaaGreatDoorZFB7
import Derived.Test.YtpfanpkinlklnaaGreatDoorZFB8
import Derived.Test.YtpfanpkinlklnaaGreatDoorZFB9
import Derived.Test.YtpfanpkinlklnaaGreatDoorZFB10
import Derived.Test.YtpfanpkinlklnaaGreatDoorZFB11
import Derived.Test.YtpfanpkinlklnaaGreatDoorZFOrd1
/- The program's Compare and Parts. -/
namespace Go.Proofs.YtpfanpkinlklnaaGreatDoor
open Go.RowKit
open Go.Lib (decDigits itoa)

theorem cmp_num2 {a b : Txt} (ea : fracE a = 0) (eb : fracE b = 0) : cmpS a b = (signN (sumN (numOf a) (negN (numOf b))), 0) := by
  obtain ⟨h1, h2⟩ := sumN_val (x := numOf a) (y := negN (numOf b)) (numOf_len ea).2 (numOf_len eb).2
  have h3 : valQ (sumN (numOf a) (negN (numOf b))) = fracQ a - fracQ b := by rw [h1, negN_val, numOf_val, numOf_val, Rat.sub_eq_add_neg]
  unfold cmpS ifOk
  rw [if_pos (bothE_zero ea eb), ← h3]
  unfold valQ signN
  rw [num_sign h2]
set_option maxHeartbeats 16000000 in
set_option maxRecDepth 100000 in
theorem compareF_any (a b : Txt) (w : World) (hG : Glob w) (ha : a.length ≤ 400) (hb : b.length ≤ 400) :
    Calls Tryz.prog 37 #[txt a, txt b] w (IntP (cmpS a b).1 (cmpS a b).2 w) := by
  have HPA := Lib.hid (fun W (hW : Ext w W) => parsed_any a W (hG.ext hW) ha)
  have HPB := Lib.hid (fun W (hW : Ext w W) => parsed_any b W (hG.ext hW) hb)
  clear hG
  unfold IntP
  go_enter Tryz.func37, Tryz.ntmps37
  go_wp2_with fail
  refine (HPA.out _ (Ext.refl _)).mono ?_
  rintro e w1 ⟨v1, rfl, ⟨s1, ta, tn, tc, ba, bn, bc, rfl⟩, hn1, hE⟩
  have HN1 := Lib.hid hn1
  clear hn1 HPA
  by_cases ea : fracE a = 0
  rotate_left
  · have HR : Hid (cmpS a b = (0, fracE a)) := by show _ = _; unfold cmpS ifOk; rw [bothE_left ea, if_neg ea]
    have hne : (((fracE a : Nat) : Int) != 0) = true := by rw [bne_iff_ne]; omega
    clear HN1 HPB
    generalize fracE a = n at *
    go_wp2_with fail
    go_ret2
    exact ⟨by rw [HR.out]; rfl, (by repeat (first | with_reducible exact Ext.refl _ | with_reducible assumption | with_reducible apply Ext.drewN | with_reducible apply Ext.drew | with_reducible apply Ext.alloc | ((with_reducible refine Ext.set ?_ ?_ _); rotate_left; first | omega | (simp; omega)) | (with_reducible refine Ext.trans ?_ (by with_reducible assumption))))⟩
  have HNA := Lib.hid (HN1.out ea)
  rw [ea]
  have HEA := Lib.hid ea
  clear ea HN1
  have hne0 : (((0 : Nat) : Int) != 0) = false := rfl
  have EV : Ext w1 (w1.alloc (.cells #[.bool s1, .slice ta tn tc, .slice ba bn bc] 72)) := (by repeat (first | with_reducible exact Ext.refl _ | with_reducible assumption | with_reducible apply Ext.drewN | with_reducible apply Ext.drew | with_reducible apply Ext.alloc | ((with_reducible refine Ext.set ?_ ?_ _); rotate_left; first | omega | (simp; omega)) | (with_reducible refine Ext.trans ?_ (by with_reducible assumption))))
  have X : Num3 w1.heap.size (w1.alloc (.cells #[.bool s1, .slice ta tn tc, .slice ba bn bc] 72)) (.bool s1) (.slice ta tn tc) (.slice ba bn bc) := ⟨by go_simp, by go_simp, by go_simp, by go_simp, by go_simp, by go_simp⟩
  have E := hE.trans EV
  replace HNA := Lib.hid (HNA.out.ext EV)
  clear EV hE
  go_wp2_with fail
  obtain ⟨xb, hxb⟩ : ∃ xb, xb = w1.heap.size := ⟨_, rfl⟩
  rw [← hxb] at X ⊢
  clear hxb
  generalize (w1.alloc (.cells #[.bool s1, .slice ta tn tc, .slice ba bn bc] 72)) = W1 at X E HNA ⊢
  refine (HPB.out _ E).mono ?_
  rintro e w3 ⟨v2, rfl, ⟨s2, ua, un, uc, va, vn, vc, rfl⟩, hn2, hE⟩
  replace X := X.ext hE
  replace E := E.trans hE
  replace HNA := Lib.hid (HNA.out.ext hE)
  have HN2 := Lib.hid hn2
  clear hn2 HPB hE
  by_cases eb : fracE b = 0
  rotate_left
  · have HR : Hid (cmpS a b = (0, fracE b)) := by show _ = _; unfold cmpS ifOk; rw [bothE_right HEA.out, if_neg eb]
    have hne : (((fracE b : Nat) : Int) != 0) = true := by rw [bne_iff_ne]; omega
    clear HN2 HEA
    generalize fracE b = n at *
    go_wp2_with fail
    go_ret2
    exact ⟨by rw [HR.out]; rfl, (by repeat (first | with_reducible exact Ext.refl _ | with_reducible assumption | with_reducible apply Ext.drewN | with_reducible apply Ext.drew | with_reducible apply Ext.alloc | ((with_reducible refine Ext.set ?_ ?_ _); rotate_left; first | omega | (simp; omega)) | (with_reducible refine Ext.trans ?_ (by with_reducible assumption))))⟩
  have HNB := Lib.hid (HN2.out eb)
  have HR := Lib.hid (cmp_num2 HEA.out eb)
  have hxa := (numOf_len HEA.out).1
  have hyb := (numOf_len eb).1
  rw [eb]
  clear eb HN2 HEA
  have EV : Ext w3 (w3.alloc (.cells #[.bool s2, .slice ua un uc, .slice va vn vc] 72)) := (by repeat (first | with_reducible exact Ext.refl _ | with_reducible assumption | with_reducible apply Ext.drewN | with_reducible apply Ext.drew | with_reducible apply Ext.alloc | ((with_reducible refine Ext.set ?_ ?_ _); rotate_left; first | omega | (simp; omega)) | (with_reducible refine Ext.trans ?_ (by with_reducible assumption))))
  have Y : Num3 w3.heap.size (w3.alloc (.cells #[.bool s2, .slice ua un uc, .slice va vn vc] 72)) (.bool s2) (.slice ua un uc) (.slice va vn vc) := ⟨by go_simp, by go_simp, by go_simp, by go_simp, by go_simp, by go_simp⟩
  replace X := X.ext EV
  replace E := E.trans EV
  replace HNA := Lib.hid (HNA.out.ext EV)
  replace HNB := Lib.hid (HNB.out.ext EV)
  clear EV
  generalize numOf a = NA at *
  generalize numOf b = NB at *
  go_wp2_with fail
  obtain ⟨yb, hyb2⟩ : ∃ yb, yb = w3.heap.size := ⟨_, rfl⟩
  rw [← hyb2] at Y ⊢
  clear hyb2
  generalize (w3.alloc (.cells #[.bool s2, .slice ua un uc, .slice va vn vc] 72)) = W3 at X Y E HNA HNB ⊢
  have hdr : Ext W3 W3.drew := (by repeat (first | with_reducible exact Ext.refl _ | with_reducible assumption | with_reducible apply Ext.drewN | with_reducible apply Ext.drew | with_reducible apply Ext.alloc | ((with_reducible refine Ext.set ?_ ?_ _); rotate_left; first | omega | (simp; omega)) | (with_reducible refine Ext.trans ?_ (by with_reducible assumption))))
  replace X := X.ext hdr
  replace Y := Y.ext hdr
  replace E := E.trans hdr
  replace HNA := Lib.hid (HNA.out.ext hdr)
  replace HNB := Lib.hid (HNB.out.ext hdr)
  have hS : W3.drew.cell? ⟨xb, 0, none⟩ = some (.bool s1) ∧ W3.drew.cell? ⟨xb, 1, none⟩ = some (.slice ta tn tc) ∧ W3.drew.cell? ⟨xb, 2, none⟩ = some (.slice ba bn bc) ∧ W3.drew.cell? ⟨yb, 0, none⟩ = some (.bool s2) ∧ W3.drew.cell? ⟨yb, 1, none⟩ = some (.slice ua un uc) ∧ W3.drew.cell? ⟨yb, 2, none⟩ = some (.slice va vn vc) := ⟨X.c0, X.c1, X.c2, Y.c0, Y.c1, Y.c2⟩
  refine wp_region_heldE 99 (fun w' => w'.cell? ⟨xb, 0, none⟩ = some (.bool s1) ∧ w'.cell? ⟨xb, 1, none⟩ = some (.slice ta tn tc) ∧ w'.cell? ⟨xb, 2, none⟩ = some (.slice ba bn bc) ∧ w'.cell? ⟨yb, 0, none⟩ = some (.bool s2) ∧ w'.cell? ⟨yb, 1, none⟩ = some (.slice ua un uc) ∧ w'.cell? ⟨yb, 2, none⟩ = some (.slice va vn vc)) (by kernel_rfl) ?_
  clear hdr X Y
  generalize W3.drew = W4 at E HNA HNB hS ⊢
  ((refine wpAnyE_take (i := 0) (oi := ?_) (v := ?_) ?_ (by kernel_rfl) ?_ ?_ (by assumption) ?_; rotate_left 2; (focus ((simp only [List.getElem?_toArray, List.getElem?_cons_zero]; exact rfl))); (focus (exact fun _ _ _ h => h)); (focus (refine Or.inl ⟨by rfl, ?_⟩; intro w hSw; (try dsimp only at hSw); (first | (go_simp; done) | (go_simp; with_reducible rfl)))); (try simp only [Act.put, List.setIfInBounds_toArray, List.set_cons_zero, List.set_cons_succ])); (refine wpAnyE_take (i := 1) (oi := ?_) (v := ?_) ?_ (by kernel_rfl) ?_ ?_ (by assumption) ?_; rotate_left 2; (focus ((simp only [List.getElem?_toArray, List.getElem?_cons_succ, List.getElem?_cons_zero]; exact rfl))); (focus (exact fun _ _ _ h => h)); (focus (refine Or.inl ⟨by rfl, ?_⟩; intro w hSw; (try dsimp only at hSw); (first | (go_simp; done) | (go_simp; with_reducible rfl)))); (try simp only [Act.put, List.setIfInBounds_toArray, List.set_cons_zero, List.set_cons_succ])))
  (refine wpAnyE_one (i := 2) (o := ?_) ?_ (by kernel_rfl) (fun K hK => ?_); rotate_left; (focus ((simp only [List.getElem?_toArray, List.getElem?_cons_succ, List.getElem?_cons_zero]; exact rfl))); go_simp; go_at_call 62; refine (opposite_any NB _ _ HNB.out).mono ?_; rintro e w5 ⟨v5, rfl, h5, hE⟩; go_wp2_with fail; refine hK.out _ _ ?_ (fun hHeld => ?_); rotate_left; clear hK K; (try simp only [Act.put, List.setIfInBounds_toArray, List.set_cons_zero, List.set_cons_succ]))
  rotate_left
  · exact ⟨hE.cell hS.1, hE.cell hS.2.1, hE.cell hS.2.2.1, hE.cell hS.2.2.2.1, hE.cell hS.2.2.2.2.1, hE.cell hS.2.2.2.2.2⟩
  have hS5 : w5.cell? ⟨xb, 0, none⟩ = some (.bool s1) ∧ w5.cell? ⟨xb, 1, none⟩ = some (.slice ta tn tc) ∧ w5.cell? ⟨xb, 2, none⟩ = some (.slice ba bn bc) ∧ w5.cell? ⟨yb, 0, none⟩ = some (.bool s2) ∧ w5.cell? ⟨yb, 1, none⟩ = some (.slice ua un uc) ∧ w5.cell? ⟨yb, 2, none⟩ = some (.slice va vn vc) := ⟨hE.cell hS.1, hE.cell hS.2.1, hE.cell hS.2.2.1, hE.cell hS.2.2.2.1, hE.cell hS.2.2.2.2.1, hE.cell hS.2.2.2.2.2⟩
  replace E := E.trans hE
  replace HNA := Lib.hid (HNA.out.ext hE)
  have HV5 := Lib.hid h5
  clear hS hE h5 hHeld HNB
  (refine wpAnyE_one (i := 3) (o := ?_) ?_ (by kernel_rfl) (fun K hK => ?_); rotate_left; (focus ((simp only [List.getElem?_toArray, List.getElem?_cons_succ, List.getElem?_cons_zero]; exact rfl))); go_simp; go_at_call 76; refine (sum_any NA (negN NB) _ v5 w5 HNA.out HV5.out hxa hyb).mono ?_; rintro e w6 ⟨v6, rfl, h6, _, hE⟩; go_wp2_with fail; refine hK.out _ _ ?_ (fun hHeld => ?_); rotate_left; clear hK K; (try simp only [Act.put, List.setIfInBounds_toArray, List.set_cons_zero, List.set_cons_succ]))
  rotate_left
  · exact ⟨hE.cell hS5.1, hE.cell hS5.2.1, hE.cell hS5.2.2.1, hE.cell hS5.2.2.2.1, hE.cell hS5.2.2.2.2.1, hE.cell hS5.2.2.2.2.2⟩
  have hS6 : w6.cell? ⟨xb, 0, none⟩ = some (.bool s1) ∧ w6.cell? ⟨xb, 1, none⟩ = some (.slice ta tn tc) ∧ w6.cell? ⟨xb, 2, none⟩ = some (.slice ba bn bc) ∧ w6.cell? ⟨yb, 0, none⟩ = some (.bool s2) ∧ w6.cell? ⟨yb, 1, none⟩ = some (.slice ua un uc) ∧ w6.cell? ⟨yb, 2, none⟩ = some (.slice va vn vc) := ⟨hE.cell hS5.1, hE.cell hS5.2.1, hE.cell hS5.2.2.1, hE.cell hS5.2.2.2.1, hE.cell hS5.2.2.2.2.1, hE.cell hS5.2.2.2.2.2⟩
  replace E := E.trans hE
  have HV6 := Lib.hid h6
  clear hS5 hE h6 hHeld HNA HV5
  generalize sumN NA (negN NB) = SN at *
  (refine wpAnyE_one (i := 4) (o := ?_) ?_ (by kernel_rfl) (fun K hK => ?_); rotate_left; (focus ((simp only [List.getElem?_toArray, List.getElem?_cons_succ, List.getElem?_cons_zero]; exact rfl))); go_simp; go_at_call 75; refine (sign_any SN v6 w6 HV6.out).mono ?_; rintro e w7 ⟨rfl, hE⟩; go_wp2_with fail; refine hK.out _ _ ?_ (fun hHeld => ?_); rotate_left; clear hK K; (try simp only [Act.put, List.setIfInBounds_toArray, List.set_cons_zero, List.set_cons_succ]))
  rotate_left
  · exact ⟨hE.cell hS6.1, hE.cell hS6.2.1, hE.cell hS6.2.2.1, hE.cell hS6.2.2.2.1, hE.cell hS6.2.2.2.2.1, hE.cell hS6.2.2.2.2.2⟩
  have hS7 : w7.cell? ⟨xb, 0, none⟩ = some (.bool s1) ∧ w7.cell? ⟨xb, 1, none⟩ = some (.slice ta tn tc) ∧ w7.cell? ⟨xb, 2, none⟩ = some (.slice ba bn bc) ∧ w7.cell? ⟨yb, 0, none⟩ = some (.bool s2) ∧ w7.cell? ⟨yb, 1, none⟩ = some (.slice ua un uc) ∧ w7.cell? ⟨yb, 2, none⟩ = some (.slice va vn vc) := ⟨hE.cell hS6.1, hE.cell hS6.2.1, hE.cell hS6.2.2.1, hE.cell hS6.2.2.2.1, hE.cell hS6.2.2.2.2.1, hE.cell hS6.2.2.2.2.2⟩
  replace E := E.trans hE
  clear hS6 hE hHeld
  ((refine wpAnyE_pure (i := 5) (oi := ?_) (v := ?_) ?_ (by kernel_rfl) ?_ ?_ ?_ ?_; rotate_left 2; (focus ((simp only [List.getElem?_toArray, List.getElem?_cons_succ, List.getElem?_cons_zero]; exact rfl))); (focus (exact fun _ _ _ h => h)); (focus (refine Or.inl ⟨by rfl, ?_⟩; intro w hSw; clear hSw; (first | (go_simp; done) | (go_simp; with_reducible rfl)))); (focus (first | exact (fun _ => by assumption) | (intro hlst; exact absurd hlst (by kernel_rfl)) | (intro hlst; cases hlst))); (try simp only [Act.put, List.setIfInBounds_toArray, List.set_cons_zero, List.set_cons_succ])); (refine wpAnyE_pure (i := 6) (oi := ?_) (v := ?_) ?_ (by kernel_rfl) ?_ ?_ ?_ ?_; rotate_left 2; (focus ((simp only [List.getElem?_toArray, List.getElem?_cons_succ, List.getElem?_cons_zero]; exact rfl))); (focus (exact fun _ _ _ h => h)); (focus (refine Or.inl ⟨by rfl, ?_⟩; intro w hSw; clear hSw; (first | (go_simp; done) | (go_simp; with_reducible rfl)))); (focus (first | exact (fun _ => by assumption) | (intro hlst; exact absurd hlst (by kernel_rfl)) | (intro hlst; cases hlst))); (try simp only [Act.put, List.setIfInBounds_toArray, List.set_cons_zero, List.set_cons_succ])))
  clear hS7
  refine wpAnyE_done (by kernel_rfl) ?_ _
  go_wp2_with fail
  go_ret2
  exact ⟨by rw [HR.out]; rfl, E⟩
end Go.Proofs.YtpfanpkinlklnaaGreatDoor
/- The program's Parts. -/
namespace Go.Proofs.YtpfanpkinlklnaaGreatDoor
open Go.RowKit
open Go.Lib (decDigits itoa)

set_option maxHeartbeats 4000000 in
set_option maxRecDepth 100000 in
theorem partsF_any (a : Txt) (w : World) (hG : Glob w) (ha : a.length ≤ 400) : Calls Tryz.prog 40 #[txt a] w (ParP (partsR a) w) := by
  have HC := Lib.hid (check_any a w hG ha)
  have HCut := Lib.hid (fun W (hW : Ext w W) => Cut_any a W (hG.ext hW) (by omega))
  clear hG
  unfold ParP
  by_cases ea : fracE a = 0
  · rw [parts_ok ea]
    rw [ea] at HC
    clear ea
    have hne0 : (((0 : Nat) : Int) != 0) = false := rfl
    by_cases hs : 47 ∈ a
    · rw [if_pos hs, decide_eq_true hs] at HCut
      clear hs
      generalize topS a = n at *
      generalize lowS a = d at *
      go_enter Tryz.func40, Tryz.ntmps40
      go_wp2_with (first
        | (go_at_call 44; with_reducible refine HC.out.mono ?_; rintro e w1 ⟨rfl, hE⟩)
        | (go_at_call 81; with_reducible refine (HCut.out _ hE).mono ?_; rintro e w2 ⟨rfl, hE2⟩))
      go_ret3
      exact ⟨rfl, hE.trans hE2⟩
    · rw [if_neg hs, decide_eq_false hs] at HCut
      rw [(split_none hs).2]
      clear hs
      generalize topS a = n at *
      go_enter Tryz.func40, Tryz.ntmps40
      go_wp2_with (first
        | (go_at_call 44; with_reducible refine HC.out.mono ?_; rintro e w1 ⟨rfl, hE⟩)
        | (go_at_call 81; with_reducible refine (HCut.out _ hE).mono ?_; rintro e w2 ⟨rfl, hE2⟩))
      go_ret3
      exact ⟨rfl, hE.trans hE2⟩
  · rw [parts_bad ea]
    have hne : (((fracE a : Nat) : Int) != 0) = true := by rw [bne_iff_ne]; omega
    clear ea HCut
    generalize fracE a = n at *
    go_enter Tryz.func40, Tryz.ntmps40
    go_wp2_with (go_at_call 44; with_reducible refine HC.out.mono ?_; rintro e w1 ⟨rfl, hE⟩)
    go_ret3
    exact ⟨rfl, hE⟩
end Go.Proofs.YtpfanpkinlklnaaGreatDoor
/- The law's functions right and FractionParts. -/
namespace Go.Proofs.YtpfanpkinlklnaaGreatDoor
open Go.RowKit
open Go.Lib (decDigits itoa)

/-- short and right -/
def okS (x : Txt) : Bool := decide (x.length ≤ 10) && decide (fracE x = 0)
theorem okS_iff {x : Txt} : okS x = true ↔ x.length ≤ 10 ∧ fracE x = 0 := by unfold okS; simp
set_option maxHeartbeats 2000000 in
theorem right1_any (x : Txt) (w : World) : Calls Tryz.prog 79 #[txt x] w fun e w' => e = .returned (.bool (!okS x)) ∧ Ext w w' := by
  have HS := Lib.hid (rShort_any x w)
  by_cases h1 : x.length ≤ 10
  · have HC := Lib.hid (checkR_any x w (by omega))
    rw [decide_eq_true h1] at HS
    by_cases h2 : fracE x = 0
    · have HR : Hid ((!okS x) = false) := by show _ = _; rw [okS_iff.2 ⟨h1, h2⟩]; rfl
      rw [h2] at HC
      rw [HR.out]
      clear h1 h2 HR
      go_enter Tryz.func79, Tryz.ntmps79
      go_wp2_with (first
        | (go_at_call 80; with_reducible refine HS.out.mono ?_; rintro e w' ⟨rfl, rfl⟩)
        | (go_at_call 50; with_reducible refine HC.out.mono ?_; rintro e w1 ⟨rfl, hE⟩))
      go_ret
      exact ⟨rfl, hE⟩
    · have HR : Hid ((!okS x) = true) := by show _ = _; unfold okS; simp [h2]
      have hne : (((fracE x : Nat) : Int) != 0) = true := by rw [bne_iff_ne]; omega
      rw [HR.out]
      clear h1 h2 HR
      generalize fracE x = n at *
      go_enter Tryz.func79, Tryz.ntmps79
      go_wp2_with (first
        | (go_at_call 80; with_reducible refine HS.out.mono ?_; rintro e w' ⟨rfl, rfl⟩)
        | (go_at_call 50; with_reducible refine HC.out.mono ?_; rintro e w1 ⟨rfl, hE⟩))
      go_ret
      exact ⟨rfl, hE⟩
  · have HR : Hid ((!okS x) = true) := by show _ = _; unfold okS; simp [h1]
    rw [decide_eq_false h1] at HS
    rw [HR.out]
    clear h1 HR
    go_enter Tryz.func79, Tryz.ntmps79
    go_wp2_with (go_at_call 80; with_reducible refine HS.out.mono ?_; rintro e w' ⟨rfl, rfl⟩)
    go_ret
    exact ⟨rfl, Ext.refl _⟩
/-- where the first wrong text stands -/
def IdxP (l : List Txt) (w : World) (e : Ending) (w' : World) : Prop := ∃ z : Int, e = .returned (.int .i64 z) ∧ Ext w w' ∧ decide (0 ≤ z) = !(l.all okS)
theorem all_drop {l : List Txt} {k : Nat} (h : k < l.length) : (l.drop k).all okS = (okS (l.getD k []) && (l.drop (k + 1)).all okS) := by
  rw [drop_txt h, List.all_cons]
set_option maxHeartbeats 4000000 in
set_option maxRecDepth 100000 in
theorem index_any (l : List Txt) (a : Option Addr) (cap : Nat) (w : World) (hc : CellsT w a l) (hm : l.length ≤ 1000) :
    Calls Tryz.prog 109 #[.slice a l.length cap, .func (.func 79) #[] #[]] w (IdxP l w) := by
  have HC := Lib.hid hc
  have HF := Lib.hid (fun s W => right1_any s W)
  clear hc
  go_enter Tryz.func109, Tryz.ntmps109
  go_wp2
  go_loopw [8] (fun i wr => ∃ k : Nat, k ≤ l.length ∧ i = .int .i64 k ∧ Hid (l.all okS = (l.drop k).all okS) ∧ Ext w wr) (fun i _ => l.length - (intOf i).toNat)
  case atStart => exact ⟨0, by omega, rfl, rfl, Ext.refl _⟩
  case round =>
    obtain ⟨k, hk, rfl, HK, he⟩ := hrel
    by_cases hlt : k < l.length
    · have hki : (k : Int) < (l.length : Int) := by omega
      obtain ⟨b, off, ha, hcell⟩ := HC.out.ext he k hlt
      subst ha
      have HFX := Lib.hid (HF.out (l.getD k []))
      have hst := all_drop hlt
      by_cases hx : okS (l.getD k []) = true
      · have HK2 : Hid (l.all okS = (l.drop (k + 1)).all okS) := by show _ = _; rw [HK.out, hst, hx]; rfl
        rw [hx] at HFX
        generalize l.getD k [] = x at hcell HFX
        clear hx HK hst
        go_wp2_with (go_at_call 79; with_reducible refine (HFX.out _).mono ?_; rintro e w1 ⟨rfl, hE⟩)
        refine ⟨⟨k + 1, by omega, by go_num, HK2, he.trans hE⟩, by simp [intOf]; omega⟩
      · have hx2 : okS (l.getD k []) = false := by simpa using hx
        have HR : Hid (decide ((0 : Int) ≤ (k : Int)) = !(l.all okS)) := by
          show _ = _
          rw [HK.out, hst, hx2, decide_eq_true (by omega)]; rfl
        rw [hx2] at HFX
        generalize l.getD k [] = x at hcell HFX
        clear hx hx2 HK hst
        go_wp2_with (go_at_call 79; with_reducible refine (HFX.out _).mono ?_; rintro e w1 ⟨rfl, hE⟩)
        go_ret
        exact ⟨k, rfl, he.trans hE, HR.out⟩
    · have hki : ¬ (k : Int) < (l.length : Int) := by omega
      have HR : Hid (decide ((0 : Int) ≤ -1) = !(l.all okS)) := by
        show _ = _
        rw [HK.out, List.drop_eq_nil_of_le (by omega)]; rfl
      clear HK
      go_wp2
      go_ret
      exact ⟨-1, rfl, he, HR.out⟩
set_option maxHeartbeats 2000000 in
theorem contains_any (l : List Txt) (a : Option Addr) (cap : Nat) (w : World) (hc : CellsT w a l) (hm : l.length ≤ 1000) :
    Calls Tryz.prog 78 #[.slice a l.length cap, .func (.func 79) #[] #[]] w fun e w' => e = .returned (.bool (!(l.all okS))) ∧ Ext w w' := by
  have HI := Lib.hid (index_any l a cap w hc hm)
  clear hc
  unfold IdxP at HI
  generalize l.all okS = B at *
  go_enter Tryz.func78, Tryz.ntmps78
  go_wp2_with (go_at_call 109; refine HI.out.mono ?_; rintro e w1 ⟨z, rfl, hE, hz⟩)
  go_ret
  exact ⟨rfl, hE⟩
set_option maxHeartbeats 2000000 in
theorem rightF_any (l : List Txt) (a : Option Addr) (cap : Nat) (w : World) (hc : CellsT w a l) (hm : l.length ≤ 1000) :
    Calls Tryz.prog 39 #[.slice a l.length cap] w fun e w' => e = .returned (.bool (l.all okS)) ∧ Ext w w' := by
  have HI := Lib.hid (contains_any l a cap w hc hm)
  clear hc
  generalize l.all okS = B at *
  go_enter Tryz.func39, Tryz.ntmps39
  go_wp2_with (go_at_call 78; refine HI.out.mono ?_; rintro e w1 ⟨rfl, hE⟩)
  go_ret
  exact ⟨ret_bool (by simp), hE⟩

/-! ### A fraction is made again from its parts -/
theorem make_ints {m n : Int} (hm : m.natAbs < 10 ^ 60) (hn : n.natAbs < 10 ^ 60) (h0 : n ≠ 0) : makeR (itoa m) (itoa n) = resQ ((m : Rat) / (n : Rat)) := by
  obtain ⟨_, k2⟩ := int_of m
  obtain ⟨k3, k4⟩ := int_of n
  unfold makeR ifOk
  rw [if_pos (intE_of hm), if_pos (intE_of hn), if_neg (fun e => h0 (by rw [← k4]; exact (int_zero k3).1 e)), k2, k4]
theorem parts_law {a : Txt} {k : Int} (h : fracE a = 0) (hl : a.length ≤ 10) (hk : k ≠ 0) (h1 : -32768 ≤ k) (h2 : k ≤ 32767) :
    makeR (topS a) (lowS a) = (a, 0) ∧ divS (topS a) (lowS a) = (a, 0) ∧
    ∃ x y : Txt, mulS (topS a) (itoa k) = (x, 0) ∧ mulS (lowS a) (itoa k) = (y, 0) ∧ makeR x y = (a, 0) ∧ x.length ≤ 400 ∧ y.length ≤ 400 := by
  obtain ⟨i1, _, i3, i4, _⟩ := frac_parts h
  obtain ⟨n1, n2⟩ := frac_num h
  have hf := short_fit h hl
  obtain ⟨M, hM⟩ : ∃ M, M = intV (topS a) := ⟨_, rfl⟩
  obtain ⟨N, hN⟩ : ∃ N, N = decV (lowS a) := ⟨_, rfl⟩
  have et : topS a = itoa M := by rw [hM, int_back i1]
  have el : lowS a = itoa (N : Int) := by rw [Go.Lib.itoa_nonneg, hN, canon_back i3]
  rw [← hM] at n1
  rw [← hN] at n2 i4
  have hMb : M.natAbs < 10 ^ 10 := by rw [← n1]; exact hf.1
  have hNb : (N : Int).natAbs < 10 ^ 10 := by rw [Int.natAbs_natCast, ← n2]; exact hf.2
  have hkb : k.natAbs < 10 ^ 5 := by omega
  have gM := int_good (n := M) (K := 10) (by omega) (by omega) hMb
  have gN := int_good (n := (N : Int)) (K := 10) (by omega) (by omega) hNb
  have gk := int_good (n := k) (K := 5) (by omega) (by omega) hkb
  have hN0 : (N : Int) ≠ 0 := by omega
  have hNr : ((N : Int) : Rat) ≠ 0 := fun e => hN0 (Rat.intCast_eq_zero_iff.1 e)
  have hkr : (k : Rat) ≠ 0 := fun e => hk (Rat.intCast_eq_zero_iff.1 e)
  have hq : (M : Rat) / ((N : Int) : Rat) = fracQ a := by
    show _ = mkRat (intV (topS a)) (decV (lowS a))
    rw [← hM, ← hN, Rat.mkRat_eq_div]
    rfl
  have p60 : (10 : Nat) ^ 10 ≤ 10 ^ 60 := Nat.pow_le_pow_right (by omega) (by omega)
  have p15 : (10 : Nat) ^ (10 + 5) ≤ 10 ^ 60 := Nat.pow_le_pow_right (by omega) (by omega)
  have eM : (M : Rat) * (k : Rat) = ((M * k : Int) : Rat) := (Rat.intCast_mul _ _).symm
  have eN : ((N : Int) : Rat) * (k : Rat) = (((N : Int) * k : Int) : Rat) := (Rat.intCast_mul _ _).symm
  have mM := gM.mul gk (by omega)
  have mN := gN.mul gk (by omega)
  rw [eM, fracT_int] at mM
  rw [eN, fracT_int] at mN
  have hMk : (M * k).natAbs < 10 ^ 60 := by rw [Int.natAbs_mul]; exact Nat.lt_of_lt_of_le (pow_mul_lt hMb hkb) p15
  have hNk : ((N : Int) * k).natAbs < 10 ^ 60 := by rw [Int.natAbs_mul]; exact Nat.lt_of_lt_of_le (pow_mul_lt hNb hkb) p15
  have hNk0 : (N : Int) * k ≠ 0 := Int.mul_ne_zero hN0 hk
  have hr : ((M * k : Int) : Rat) / (((N : Int) * k : Int) : Rat) = fracQ a := by
    rw [← eM, ← eN, ← hq]
    have e1 : (M : Rat) = (M : Rat) / ((N : Int) : Rat) * ((N : Int) : Rat) := (Rat.div_mul_cancel hNr).symm
    have e2 : (M : Rat) * (k : Rat) = (M : Rat) / ((N : Int) : Rat) * (((N : Int) : Rat) * (k : Rat)) := by
      conv => lhs; rw [e1]
      rw [Rat.mul_assoc]
    rw [e2, Rat.mul_div_cancel]
    exact fun e => (Rat.mul_eq_zero.1 e).elim hNr hkr
  have ea := made_is h rfl
  rw [et, el]
  refine ⟨?_, ?_, itoa (M * k), itoa ((N : Int) * k), mM.1, mN.1, ?_, Nat.le_trans (frac_len mM.2.ok) (by omega), Nat.le_trans (frac_len mN.2.ok) (by omega)⟩
  · rw [make_ints (Nat.lt_of_lt_of_le hMb p60) (Nat.lt_of_lt_of_le hNb p60) hN0, hq, ea]
  · rw [(gM.div gN (by omega) hNr).1, hq, frac_back h]
  · rw [make_ints hMk hNk hNk0, hr, ea]
end Go.Proofs.YtpfanpkinlklnaaGreatDoor
/- The law's function FractionParts. -/
namespace Go.Proofs.YtpfanpkinlklnaaGreatDoor
open Go.RowKit
open Go.Lib (decDigits itoa)

theorem cell_new (w : World) (arr : Array Value) (t : TypeId) (i : Nat) (v : Value) (h : arr[i]? = some v) : (w.alloc (.cells arr t)).cell? ⟨w.heap.size, 0 + i, none⟩ = some v := by
  have hh : (w.alloc (.cells arr t)).heap[w.heap.size]? = some (.cells arr t) := by show (w.heap.push _)[w.heap.size]? = _; rw [Array.getElem?_push, if_pos rfl]
  have hi : i < arr.size := by
    rcases Nat.lt_or_ge i arr.size with k | k
    · exact k
    · rw [Array.getElem?_eq_none k] at h; cases h
  simp only [World.cell?, hh, Nat.zero_add]
  first | exact h | (rw [h]; rfl)
theorem cells_txts (w : World) (l : List Txt) (t : TypeId) : CellsT (w.alloc (.cells (l.map txt).toArray t)) (some ⟨w.heap.size, 0, none⟩) l := fun i hi => by
  refine ⟨w.heap.size, 0, rfl, cell_new w _ t i _ ?_⟩
  rw [getD_txt hi, List.getElem?_toArray, List.getElem?_map, List.getElem?_eq_getElem hi]
  rfl
theorem low_len {a : Txt} (h : a.length ≤ 390) : (topS a).length ≤ 400 ∧ (lowS a).length ≤ 400 := by
  constructor
  · exact Nat.le_trans (List.takeWhile_prefix _).length_le (by omega)
  · unfold lowS
    split
    · rw [List.length_tail]
      have := (List.dropWhile_suffix (l := a) (· != 47)).length_le
      omega
    · simp
set_option maxHeartbeats 8000000 in
set_option maxRecDepth 100000 in
theorem lawParts_any (a : Txt) (k : Int) (w : World) (hG : Glob w) (h1 : -32768 ≤ k) (h2 : k ≤ 32767) :
    Calls Tryz.prog 8 #[txt a, .int .i16 k] w (TrueP w) := by
  have HG := Lib.hid hG
  have HA : Hid (∀ W, Ext w W → Calls Tryz.prog 13 #[] W fun e w' => e = .returned (.bool true) ∧ Ext W w') := fun W h => awake_any W (HG.out.ext h)
  have HR := Lib.hid (rightF_any [a] (some ⟨w.heap.size, 0, none⟩) 1 _ (cells_txts w [a] 23) (by simp))
  have E1 : Ext w (w.alloc (.cells #[txt a] 23)) := (by repeat (first | with_reducible exact Ext.refl _ | with_reducible assumption | with_reducible apply Ext.drewN | with_reducible apply Ext.drew | with_reducible apply Ext.alloc | ((with_reducible refine Ext.set ?_ ?_ _); rotate_left; first | omega | (simp; omega)) | (with_reducible refine Ext.trans ?_ (by with_reducible assumption))))
  have hall : [a].all okS = okS a := by simp
  rw [hall] at HR
  clear hG hall
  unfold TrueP
  by_cases hok : okS a = true
  rotate_left
  · have hok2 : okS a = false := by simpa using hok
    rw [hok2] at HR
    clear hok hok2
    go_enter Tryz.func8, Tryz.ntmps8
    go_wp2_with fail
    refine HR.out.mono ?_
    rintro e w1 ⟨rfl, h⟩
    have E := E1.trans h
    go_wp2_with (go_at_call 13; refine (HA.out _ E).mono ?_; rintro e w3 ⟨rfl, h3⟩)
    go_ret
    exact ⟨rfl, E.trans h3⟩
  rw [hok] at HR
  by_cases hk : k = 0
  · have hkb : (k == 0) = true := by rw [hk]; rfl
    clear hok hk
    go_enter Tryz.func8, Tryz.ntmps8
    go_wp2_with fail
    refine HR.out.mono ?_
    rintro e w1 ⟨rfl, h⟩
    have E := E1.trans h
    go_wp2_with (go_at_call 13; refine (HA.out _ E).mono ?_; rintro e w3 ⟨rfl, h3⟩)
    go_ret
    exact ⟨rfl, E.trans h3⟩
  have hkb : (k == 0) = false := by rw [beq_eq_false_iff_ne]; exact hk
  have hwk : IntKind.i64.wrap k = k := by rw [IntKind.wrap_i64]; omega
  obtain ⟨hl, hf⟩ := okS_iff.1 hok
  obtain ⟨p1, p2, x, y, p3, p4, p5, hxl, hyl⟩ := parts_law hf hl hk h1 h2
  obtain ⟨ht, hlw⟩ := low_len (a := a) (by omega)
  have HP : Hid (∀ W, Ext w W → Calls Tryz.prog 40 #[txt a] W (ParP (topS a, lowS a, 0) W)) := fun W h => by rw [← parts_ok hf]; exact partsF_any a W (HG.out.ext h) (by omega)
  have HM1 : Hid (∀ W, Ext w W → Calls Tryz.prog 14 #[txt (topS a), txt (lowS a)] W (ResP (a, 0) W)) := fun W h => by rw [← p1]; exact make_any _ _ W (HG.out.ext h) ht hlw
  have HW : Hid (∀ W, Ext w W → Calls Tryz.prog 18 #[.int .i64 k] W fun e w' => e = .returned (txt (itoa k)) ∧ Ext W w') := fun W h => whole_any k W (HG.out.ext h) (by omega) (by omega)
  have hkl : (itoa k).length ≤ 400 := by
    have := itoa_len (n := k) (by omega) (by omega)
    omega
  have HX : Hid (∀ W, Ext w W → Calls Tryz.prog 33 #[txt (topS a), txt (itoa k)] W (ResP (x, 0) W)) := fun W h => by rw [← p3]; exact mul_any _ _ W (HG.out.ext h) ht hkl
  have HY : Hid (∀ W, Ext w W → Calls Tryz.prog 33 #[txt (lowS a), txt (itoa k)] W (ResP (y, 0) W)) := fun W h => by rw [← p4]; exact mul_any _ _ W (HG.out.ext h) hlw hkl
  have HM2 : Hid (∀ W, Ext w W → Calls Tryz.prog 14 #[txt x, txt y] W (ResP (a, 0) W)) := fun W h => by rw [← p5]; exact make_any _ _ W (HG.out.ext h) hxl hyl
  have HD : Hid (∀ W, Ext w W → Calls Tryz.prog 35 #[txt (topS a), txt (lowS a)] W (ResP (a, 0) W)) := fun W h => by rw [← p2]; exact div_any _ _ W (HG.out.ext h) ht hlw
  unfold ParP at HP
  unfold ResP at HM1 HX HY HM2 HD
  clear p1 p2 p3 p4 p5 hxl hyl ht hlw hkl hok hl hf hk
  generalize topS a = m at *
  generalize lowS a = n at *
  generalize itoa k = t at *
  have hb := beq_self a
  go_enter Tryz.func8, Tryz.ntmps8
  go_wp2_with fail
  refine HR.out.mono ?_
  rintro e w1 ⟨rfl, h⟩
  have E := E1.trans h
  clear h E1
  go_wp2_with (go_at_call 40; refine (HP.out _ E).mono ?_; rintro e w2 ⟨rfl, h⟩)
  replace E := E.trans h
  clear h
  go_wp2_with (go_at_call 14; refine (HM1.out _ E).mono ?_; rintro e w3 ⟨rfl, h⟩)
  replace E := E.trans h
  clear h
  go_wp2_with (go_at_call 18; refine (HW.out _ E).mono ?_; rintro e w4 ⟨rfl, h⟩)
  replace E := E.trans h
  clear h
  go_wp2_with (go_at_call 33; refine (HX.out _ E).mono ?_; rintro e w5 ⟨rfl, h⟩)
  replace E := E.trans h
  clear h
  go_wp2_with (go_at_call 18; refine (HW.out _ E).mono ?_; rintro e w6 ⟨rfl, h⟩)
  replace E := E.trans h
  clear h
  go_wp2_with (go_at_call 33; refine (HY.out _ E).mono ?_; rintro e w7 ⟨rfl, h⟩)
  replace E := E.trans h
  clear h
  go_wp2_with (go_at_call 14; refine (HM2.out _ E).mono ?_; rintro e w8 ⟨rfl, h⟩)
  replace E := E.trans h
  clear h
  go_wp2_with (go_at_call 35; refine (HD.out _ E).mono ?_; rintro e w9 ⟨rfl, h⟩)
  replace E := E.trans h
  clear h
  go_wp2_with (go_at_call 13; refine (HA.out _ E).mono ?_; rintro e w10 ⟨rfl, h⟩)
  replace E := E.trans h
  go_wp2
  go_ret
  exact ⟨rfl, E⟩
end Go.Proofs.YtpfanpkinlklnaaGreatDoor
/- Atoi at the texts of right fractions, and the reference's loop of Small, in plain terms. No program in sight. -/
namespace Go.Proofs.YtpfanpkinlklnaaGreatDoor
open Go.Lib (decDigits itoa parseUint10 parseMag atoiAll NumEnd)

theorem pu_digits : ∀ (l : Txt) (acc : Nat), DigitL l → acc < 18446744073709551616 →
    parseUint10 acc l = if acc * 10 ^ l.length + decV l < 18446744073709551616 then .ok (acc * 10 ^ l.length + decV l) else .range
  | [], acc, _, ha => by
    have h0 : decV ([] : Txt) = 0 := rfl
    simp only [parseUint10, List.length_nil, Nat.pow_zero, Nat.mul_one, h0, Nat.add_zero]
    rw [if_pos ha]
  | c :: l, acc, h, ha => by
    have h1 := h c (List.mem_cons_self ..)
    have h2 : DigitL l := fun d hd => h d (List.mem_cons_of_mem _ hd)
    have h4 : decV (c :: l) = (c.toNat - 48) * 10 ^ l.length + decV l := by
      rw [show c :: l = [c] ++ l from rfl, decV_append]
      congr 2
      simp [decV]
    have hp : 0 < 10 ^ l.length := Nat.pow_pos (by omega)
    have e : acc * 10 ^ (c :: l).length + decV (c :: l) = (acc * 10 + (c.toNat - 48)) * 10 ^ l.length + decV l := by
      rw [h4, List.length_cons, Nat.pow_succ, Nat.add_mul, Nat.mul_comm (10 ^ l.length) 10, Nat.mul_assoc, Nat.add_assoc]
    rw [e]
    have hge : acc * 10 + (c.toNat - 48) ≤ (acc * 10 + (c.toNat - 48)) * 10 ^ l.length := Nat.le_mul_of_pos_right _ hp
    simp only [parseUint10]
    rw [if_pos h1]
    by_cases k1 : 1844674407370955162 ≤ acc
    · rw [if_pos k1, if_neg (by omega)]
    · rw [if_neg k1]
      by_cases k2 : 18446744073709551616 ≤ acc * 10 + (c.toNat - 48)
      · rw [if_pos k2, if_neg (by omega)]
      · rw [if_neg k2]
        exact pu_digits l _ h2 (by omega)
theorem pu_bad : ∀ (l : Txt) (acc : Nat) (v : Nat), 47 ∈ l → parseUint10 acc l ≠ .ok v
  | [], _, _, h => by cases h
  | c :: l, acc, v, h => by
    simp only [parseUint10]
    by_cases k : 48 ≤ c.toNat ∧ c.toNat ≤ 57
    · rw [if_pos k]
      have hm : 47 ∈ l := by
        rcases List.mem_cons.1 h with h | h
        · exfalso
          rw [← h] at k
          exact absurd k.1 (by decide)
        · exact h
      split
      · intro e; cases e
      · split
        · intro e; cases e
        · exact pu_bad l _ v hm
    · rw [if_neg k]
      intro e; cases e
theorem neg_byte {c : UInt8} : c.toNat = 45 ↔ c = 45 := ⟨fun h => UInt8.toNat_inj.1 h, fun h => by rw [h]; rfl⟩
theorem atoi_int {s : Txt} (h : IntS s) : atoiAll s = if -9223372036854775808 ≤ intV s ∧ intV s ≤ 9223372036854775807 then .ok (intV s) else .range := by
  obtain ⟨⟨hd, hne, hcan⟩, h0⟩ := h
  cases hn : negS s with
  | true =>
    have e := neg_cons hn
    generalize bareS s = r at *
    have hv : intV s = -(decV r : Int) := by
      unfold intV
      rw [if_pos hn, e]
      rfl
    rw [hv, e]
    have hlt : decV r < 10 ^ r.length := decV_lt hd
    have hm : parseMag r = if decV r < 18446744073709551616 then .ok (decV r) else .range := by
      unfold parseMag
      rw [if_neg hne, pu_digits r 0 hd (by omega), Nat.zero_mul, Nat.zero_add]
    unfold atoiAll
    simp only [show (45 : UInt8).toNat = 45 from rfl, or_true, if_true, hm]
    by_cases k : decV r < 18446744073709551616
    · rw [if_pos k]
      simp only [not_true, false_and, if_false, true_and]
      by_cases k2 : 9223372036854775808 < decV r
      · rw [if_pos k2, if_neg (by omega)]
      · rw [if_neg k2, if_pos (by omega)]
    · rw [if_neg k]
      dsimp only
      rw [if_neg (by omega)]
  | false =>
    have e := bare_pos hn
    rw [e] at hd hne
    have hv : intV s = (decV s : Int) := by
      unfold intV
      rw [hn, e]
      rfl
    rw [hv]
    obtain ⟨c, m, rfl⟩ := List.exists_cons_of_ne_nil hne
    have hc := hd c (List.mem_cons_self ..)
    have hm : parseMag (c :: m) = if decV (c :: m) < 18446744073709551616 then .ok (decV (c :: m)) else .range := by
      unfold parseMag
      rw [if_neg hne, pu_digits _ 0 hd (by omega), Nat.zero_mul, Nat.zero_add]
    unfold atoiAll
    dsimp only
    rw [if_neg (by omega), hm]
    have hc45 : ¬ c.toNat = 45 := by omega
    by_cases k : decV (c :: m) < 18446744073709551616
    · rw [if_pos k]
      dsimp only
      by_cases k2 : 9223372036854775808 ≤ decV (c :: m)
      · rw [if_pos ⟨hc45, k2⟩, if_neg (by omega)]
      · rw [if_neg (fun h => k2 h.2), if_neg (fun h => hc45 h.1), if_neg hc45, if_pos (by omega)]
    · rw [if_neg k]
      dsimp only
      rw [if_neg (by omega)]
theorem atoi_slash {s : Txt} (hs : 47 ∈ s.tail) (v : Int) : atoiAll s ≠ .ok v := by
  cases s with
  | nil => cases hs
  | cons c r =>
    have hs : 47 ∈ r := hs
    have key : ∀ u, parseMag (if c.toNat = 43 ∨ c.toNat = 45 then r else c :: r) ≠ .ok u := fun u => by
      split
      · unfold parseMag
        split
        · intro e; cases e
        · exact pu_bad r 0 u hs
      · unfold parseMag
        rw [if_neg (by simp)]
        exact pu_bad _ 0 u (List.mem_cons_of_mem _ hs)
    unfold atoiAll
    dsimp only
    generalize parseMag (if c.toNat = 43 ∨ c.toNat = 45 then r else c :: r) = q at *
    rcases q with u | _ | _
    · exact absurd rfl (key u)
    · intro e; cases e
    · intro e; cases e
theorem slash_tail {a : Txt} (h : fracE a = 0) (hs : 47 ∈ a) : 47 ∈ a.tail := by
  obtain ⟨h1, _⟩ := frac_parts h
  have hne : topS a ≠ [] := fun e => h1.1.2.1 (by rw [e]; rfl)
  have e := split_some hs
  generalize topS a = t at *
  obtain ⟨c, m, rfl⟩ := List.exists_cons_of_ne_nil hne
  rw [e]
  simp
end Go.Proofs.YtpfanpkinlklnaaGreatDoor
/- The program's Small. -/
namespace Go.Proofs.YtpfanpkinlklnaaGreatDoor
open Go.RowKit
open Go.Lib (decDigits itoa atoiAll)

theorem small_bad {a : Txt} (h : fracE a ≠ 0) : smallR a = (0, fracE a) := by unfold smallR ifOk; rw [if_neg h]
theorem small_cases {a : Txt} (h : fracE a = 0) : (∃ v, atoiAll a = .ok v ∧ smallR a = (v, 0)) ∨ ((∀ v, atoiAll a ≠ .ok v) ∧ smallR a = (0, 2)) := by
  obtain ⟨h1, _, _, _, _, _, h7⟩ := frac_parts h
  obtain ⟨k1, k2⟩ := frac_num h
  have hr : smallR a = if (fracQ a).den = 1 ∧ -9223372036854775808 ≤ (fracQ a).num ∧ (fracQ a).num ≤ 9223372036854775807 then ((fracQ a).num, 0) else (0, 2) := by
    unfold smallR ifOk; rw [if_pos h]
  rw [k1, k2] at hr
  by_cases hs : 47 ∈ a
  · right
    refine ⟨atoi_slash (slash_tail h hs), ?_⟩
    rw [hr, if_neg (fun k => h7.1 hs k.1)]
  · have hd : decV (lowS a) = 1 := Decidable.byContradiction fun k => hs (h7.2 k)
    rw [(split_none hs).1] at h1 hr
    have ha := atoi_int h1
    by_cases k : -9223372036854775808 ≤ intV a ∧ intV a ≤ 9223372036854775807
    · rw [if_pos k] at ha
      left
      exact ⟨_, ha, by rw [hr, if_pos ⟨hd, k⟩]⟩
    · rw [if_neg k] at ha
      right
      refine ⟨fun v e => (by rw [ha] at e; cases e), ?_⟩
      rw [hr, if_neg (fun q => k q.2)]
/-- a number and an error that is not nil -/
def AtoiBad (w : World) (e : Ending) (w' : World) : Prop := ∃ (z : Int) (N : Nat), e = .returned (.tuple #[.int .i64 z, .iface 161 (.pointer (some ⟨N, 0, none⟩))]) ∧ Ext w w'
theorem atoi_bad {a : Txt} (hl : a.length ≤ 400) (h : ∀ v, atoiAll a ≠ .ok v) (w : World) (hG : Glob w) : Calls Tryz.prog 84 #[txt a] w (AtoiBad w) := by
  have hz : (⟨a.toArray⟩ : ByteArray).size ≤ 281474976710656 := by show a.toArray.size ≤ _; simp; omega
  obtain ⟨_, _, ⟨t1, p1, hv1⟩, ⟨t2, p2, hv2⟩⟩ := hG
  rcases hq : atoiAll a with v | _ | _
  · exact absurd hq (h v)
  · refine (Tryz.strconv_Atoi_syntax_var ⟨a.toArray⟩ hz hq t1 p1 w hv1).mono ?_
    rintro e w' ⟨N, h1, _, _, h4⟩
    exact ⟨_, N, h1, h4⟩
  · refine (Tryz.strconv_Atoi_range_var ⟨a.toArray⟩ hz hq t2 p2 w hv2).mono ?_
    rintro e w' ⟨N, h1, _, _, h4⟩
    exact ⟨_, N, h1, h4⟩
theorem atoi_good {a : Txt} (hl : a.length ≤ 400) {v : Int} (h : atoiAll a = .ok v) (w : World) : Calls Tryz.prog 84 #[txt a] w fun e w' => e = .returned (.tuple #[.int .i64 v, .nilIface]) ∧ Ext w w' := by
  refine (Tryz.strconv_Atoi_ok ⟨a.toArray⟩ (by show a.toArray.size ≤ _; simp; omega) v h w).mono ?_
  rintro e w' ⟨h1, h2⟩
  refine ⟨h1, ?_⟩
  rcases h2 with rfl | ⟨t, rfl⟩
  · exact Ext.refl _
  · exact ext_bytes w _ t
set_option maxHeartbeats 4000000 in
set_option maxRecDepth 100000 in
theorem smallF_any (a : Txt) (w : World) (hG : Glob w) (ha : a.length ≤ 400) : Calls Tryz.prog 48 #[txt a] w (IntP (smallR a).1 (smallR a).2 w) := by
  have HC := Lib.hid (check_any a w hG ha)
  unfold IntP
  by_cases ea : fracE a = 0
  · rcases small_cases ea with ⟨v, h1, h2⟩ | ⟨h1, h2⟩
    · have HA := Lib.hid (fun W => atoi_good ha h1 W)
      rw [h2]
      rw [ea] at HC
      clear ea h1 h2 hG
      have hne0 : (((0 : Nat) : Int) != 0) = false := rfl
      go_enter Tryz.func48, Tryz.ntmps48
      go_wp2_with (first
        | (go_at_call 44; with_reducible refine HC.out.mono ?_; rintro e w1 ⟨rfl, hE⟩)
        | (go_at_call 84; with_reducible refine (HA.out _).mono ?_; rintro e w2 ⟨rfl, hE2⟩))
      go_ret2
      exact ⟨rfl, hE.trans hE2⟩
    · have HA := Lib.hid (fun W (hW : Ext w W) => atoi_bad ha h1 W (hG.ext hW))
      rw [h2]
      rw [ea] at HC
      clear ea h1 h2 hG
      have hne0 : (((0 : Nat) : Int) != 0) = false := rfl
      go_enter Tryz.func48, Tryz.ntmps48
      go_wp2_with (first
        | (go_at_call 44; with_reducible refine HC.out.mono ?_; rintro e w1 ⟨rfl, hE⟩)
        | (go_at_call 84; refine (HA.out _ hE).mono ?_; rintro e w2 ⟨z, N, rfl, hE2⟩))
      go_ret2
      exact ⟨rfl, hE.trans hE2⟩
  · rw [small_bad ea]
    have hne : (((fracE a : Nat) : Int) != 0) = true := by rw [bne_iff_ne]; omega
    clear ea hG
    generalize fracE a = n at *
    go_enter Tryz.func48, Tryz.ntmps48
    go_wp2_with (go_at_call 44; with_reducible refine HC.out.mono ?_; rintro e w1 ⟨rfl, hE⟩)
    go_ret2
    exact ⟨rfl, hE⟩
end Go.Proofs.YtpfanpkinlklnaaGreatDoor
/- The law's function FractionOrders. -/
namespace Go.Proofs.YtpfanpkinlklnaaGreatDoor
open Go.RowKit
open Go.Lib (decDigits itoa)

theorem rsub_neg (q r : Rat) : r - q = -(q - r) := by rw [Rat.neg_sub]
theorem sgn_neg (q : Rat) : (-q).num.sign = -q.num.sign := by rw [Rat.neg_num, Int.sign_neg]
/-- what the law computes, and that it is right -/
theorem orders_law {a b : Txt} (ha : fracE a = 0) (hb : fracE b = 0) (la : a.length ≤ 10) (lb : b.length ≤ 10) :
    ∃ (d low high gap : Txt) (s m n f c : Int), subS a b = (d, 0) ∧ signS d = (s, 0) ∧ cmpS a b = (s, 0) ∧ cmpS b a = (-s, 0) ∧ ((s == 0) = (a == b)) ∧
      floorR a = (low, 0) ∧ ceilR a = (high, 0) ∧ subS high low = (gap, 0) ∧ cmpS low a = (m, 0) ∧ cmpS a high = (n, 0) ∧ smallR low = (f, 0) ∧ smallR high = (c, 0) ∧
      m ≤ 0 ∧ n ≤ 0 ∧ ((gap = [48] ∧ low = a) ∨ (gap ≠ [48] ∧ gap = [49] ∧ m < 0 ∧ n < 0)) ∧ d.length ≤ 400 ∧ low.length ≤ 400 ∧ high.length ≤ 400 ∧ (-1 ≤ s ∧ s ≤ 1) := by
  have ga := Good.short ha la
  have gb := Good.short hb lb
  generalize fracQ a = q at *
  generalize fracQ b = r at *
  have hd := ga.sub gb (by omega)
  obtain ⟨fl, gl⟩ := ga.floor (by omega) (by omega)
  obtain ⟨cl, gc⟩ := ga.ceil (by omega) (by omega)
  have hg := gc.sub gl (by omega)
  have hlaw := law_gap ga
  have hfa : q.floor.natAbs < 10 ^ 10 := by
    have := gl.fit.1
    rwa [Rat.num_intCast] at this
  have hca : q.ceil.natAbs < 10 ^ 10 := by
    have := gc.fit.1
    rwa [Rat.num_intCast] at this
  have hm0 : ((q.floor : Rat) - q).num.sign ≤ 0 := by
    rcases floor_ceil q with ⟨h1, h2⟩ | ⟨_, h2, _⟩
    · rw [h2, Rat.sub_self]; decide
    · exact Int.le_of_lt (sgn_lt.2 h2)
  have hn0 : (q - (q.ceil : Rat)).num.sign ≤ 0 := by
    rcases floor_ceil q with ⟨h1, h2⟩ | ⟨_, _, h2⟩
    · have e : q.ceil = q.floor := by omega
      rw [e, h2, Rat.sub_self]; decide
    · exact Int.le_of_lt (sgn_lt.2 h2)
  refine ⟨fracT (q - r), itoa q.floor, itoa q.ceil, fracT ((q.ceil : Rat) - (q.floor : Rat)), (q - r).num.sign, ((q.floor : Rat) - q).num.sign, (q - (q.ceil : Rat)).num.sign, q.floor, q.ceil,
    hd.1, hd.2.sign, ga.cmp gb, ?_, ?_, fl, cl, hg.1, gl.cmp ga, ga.cmp gc, Good.small hfa, Good.small hca, hm0, hn0, ?_, ?_, ?_, ?_, ?_⟩
  · rw [gb.cmp ga, rsub_neg, sgn_neg]
  · by_cases h : a = b
    · have e : q = r := by rw [← ga.val, ← gb.val, h]
      rw [h, e, Rat.sub_self, beq_self_eq_true]; rfl
    · rw [beq_eq_false_iff_ne.2 h, beq_eq_false_iff_ne]
      intro e
      have h0 : (q - r).num = 0 := Int.sign_eq_zero_iff_zero.1 e
      have h1 : q - r = 0 := Rat.num_eq_zero.1 h0
      have h2 : q = r := by
        have h3 : q - r + r = q := Rat.sub_add_cancel
        rw [h1, Rat.zero_add] at h3
        exact h3.symm
      rw [h2] at ga
      exact h (ga.inj gb)
  · rcases hlaw with ⟨h1, h2⟩ | ⟨h1, h2, h3⟩
    · exact .inl ⟨h1, h2⟩
    · exact .inr ⟨by rw [h1]; decide, h1, h2, h3⟩
  · exact Nat.le_trans (frac_len hd.2.ok) (by omega)
  · exact Nat.le_trans (frac_len gl.ok) (by omega)
  · exact Nat.le_trans (frac_len gc.ok) (by omega)
  · have h1 := Int.sign_trichotomy (q - r).num
    omega
set_option maxHeartbeats 16000000 in
set_option maxRecDepth 100000 in
theorem lawOrders_any (a b : Txt) (w : World) (hG : Glob w) : Calls Tryz.prog 11 #[txt a, txt b] w (TrueP w) := by
  have HG := Lib.hid hG
  have HA : Hid (∀ W, Ext w W → Calls Tryz.prog 13 #[] W fun e w' => e = .returned (.bool true) ∧ Ext W w') := fun W h => awake_any W (HG.out.ext h)
  have HR := Lib.hid (rightF_any [a, b] (some ⟨w.heap.size, 0, none⟩) 2 _ (cells_txts w [a, b] 23) (by simp))
  have E1 : Ext w (w.alloc (.cells #[txt a, txt b] 23)) := (by repeat (first | with_reducible exact Ext.refl _ | with_reducible assumption | with_reducible apply Ext.drewN | with_reducible apply Ext.drew | with_reducible apply Ext.alloc | ((with_reducible refine Ext.set ?_ ?_ _); rotate_left; first | omega | (simp; omega)) | (with_reducible refine Ext.trans ?_ (by with_reducible assumption))))
  have hall : [a, b].all okS = (okS a && okS b) := by simp
  rw [hall] at HR
  clear hG hall
  unfold TrueP
  by_cases hok : (okS a && okS b) = true
  rotate_left
  · have hok2 : (okS a && okS b) = false := by simpa using hok
    rw [hok2] at HR
    clear hok hok2
    go_enter Tryz.func11, Tryz.ntmps11
    go_wp2_with fail
    refine HR.out.mono ?_
    rintro e w1 ⟨rfl, h⟩
    have E := E1.trans h
    go_wp2_with (go_at_call 13; refine (HA.out _ E).mono ?_; rintro e w3 ⟨rfl, h3⟩)
    go_ret
    exact ⟨rfl, E.trans h3⟩
  rw [hok] at HR
  obtain ⟨oa, ob⟩ := Bool.and_eq_true_iff.1 hok
  obtain ⟨la, fa⟩ := okS_iff.1 oa
  obtain ⟨lb, fb⟩ := okS_iff.1 ob
  obtain ⟨d, low, high, gap, s, m, n, f, c, e1, e2, e3, e4, hs0, e5, e6, e7, e8, e9, e10, e11, hm, hn, hgap, ld, ll, lh, hs1, hs2⟩ := orders_law fa fb la lb
  have H1 : Hid (∀ W, Ext w W → Calls Tryz.prog 31 #[txt a, txt b] W (ResP (d, 0) W)) := fun W h => by rw [← e1]; exact sub_any _ _ W (HG.out.ext h) (by omega) (by omega)
  have H2 : Hid (∀ W, Ext w W → Calls Tryz.prog 46 #[txt d] W (IntP s 0 W)) := fun W h => by have k := signF_any d W (HG.out.ext h) ld; rw [e2] at k; exact k
  have H3 : Hid (∀ W, Ext w W → Calls Tryz.prog 37 #[txt a, txt b] W (IntP s 0 W)) := fun W h => by have k := compareF_any a b W (HG.out.ext h) (by omega) (by omega); rw [e3] at k; exact k
  have H4 : Hid (∀ W, Ext w W → Calls Tryz.prog 37 #[txt b, txt a] W (IntP (-s) 0 W)) := fun W h => by have k := compareF_any b a W (HG.out.ext h) (by omega) (by omega); rw [e4] at k; exact k
  have H5 : Hid (∀ W, Ext w W → Calls Tryz.prog 22 #[txt a] W (ResP (low, 0) W)) := fun W h => by rw [← e5]; exact floor_any _ W (HG.out.ext h) (by omega)
  have H6 : Hid (∀ W, Ext w W → Calls Tryz.prog 24 #[txt a] W (ResP (high, 0) W)) := fun W h => by rw [← e6]; exact ceil_any _ W (HG.out.ext h) (by omega)
  have H7 : Hid (∀ W, Ext w W → Calls Tryz.prog 31 #[txt high, txt low] W (ResP (gap, 0) W)) := fun W h => by rw [← e7]; exact sub_any _ _ W (HG.out.ext h) lh ll
  have H8 : Hid (∀ W, Ext w W → Calls Tryz.prog 37 #[txt low, txt a] W (IntP m 0 W)) := fun W h => by have k := compareF_any low a W (HG.out.ext h) ll (by omega); rw [e8] at k; exact k
  have H9 : Hid (∀ W, Ext w W → Calls Tryz.prog 37 #[txt a, txt high] W (IntP n 0 W)) := fun W h => by have k := compareF_any a high W (HG.out.ext h) (by omega) lh; rw [e9] at k; exact k
  have H10 : Hid (∀ W, Ext w W → Calls Tryz.prog 48 #[txt low] W (IntP f 0 W)) := fun W h => by have k := smallF_any low W (HG.out.ext h) ll; rw [e10] at k; exact k
  have H11 : Hid (∀ W, Ext w W → Calls Tryz.prog 48 #[txt high] W (IntP c 0 W)) := fun W h => by have k := smallF_any high W (HG.out.ext h) lh; rw [e11] at k; exact k
  unfold ResP at H1 H5 H6 H7
  unfold IntP at H2 H3 H4 H8 H9 H10 H11
  have hws : IntKind.i64.wrap (-s) = -s := by rw [IntKind.wrap_i64]; omega
  have hss : (s != s) = false := bne_self_eq_false _
  have hss2 : (-s != -s) = false := bne_self_eq_false _
  obtain ⟨B, hB⟩ : ∃ B, B = (a == b) := ⟨_, rfl⟩
  rw [← hB] at hs0
  have hab := hB.symm
  have hg : (gap == [48]) = true ∧ (low == a) = true ∨ (gap == [48]) = false ∧ (gap == [49]) = true ∧ m < 0 ∧ n < 0 := by
    rcases hgap with ⟨h1, h2⟩ | ⟨h1, h2, h3, h4⟩
    · exact .inl ⟨by rw [h1]; rfl, by rw [h2]; exact beq_self _⟩
    · exact .inr ⟨beq_eq_false_iff_ne.2 h1, by rw [h2]; rfl, h3, h4⟩
  clear e1 e2 e3 e4 e5 e6 e7 e8 e9 e10 e11 ld ll lh hs1 hs2 hgap hB oa ob la fa lb fb hok
  rcases hg with ⟨hg1, hg2⟩ | ⟨hg1, hg2, hg3, hg4⟩ <;> cases B
  all_goals
    go_enter Tryz.func11, Tryz.ntmps11
    go_wp2_with fail
    refine HR.out.mono ?_
    rintro e w1 ⟨rfl, h⟩
    have E := E1.trans h
    clear h
    go_wp2_with (go_at_call 31; have hh := H1; clear H1; refine (hh.out _ E).mono ?_; clear hh; rintro e v0 ⟨rfl, h⟩)
    replace E := E.trans h
    clear h
    go_wp2_with (go_at_call 46; have hh := H2; clear H2; refine (hh.out _ E).mono ?_; clear hh; rintro e v1 ⟨rfl, h⟩)
    replace E := E.trans h
    clear h
    go_wp2_with (go_at_call 37; have hh := H3; clear H3; refine (hh.out _ E).mono ?_; clear hh; rintro e v2 ⟨rfl, h⟩)
    replace E := E.trans h
    clear h
    go_wp2_with (go_at_call 37; have hh := H4; clear H4; refine (hh.out _ E).mono ?_; clear hh; rintro e v3 ⟨rfl, h⟩)
    replace E := E.trans h
    clear h
    go_wp2_with (go_at_call 22; have hh := H5; clear H5; refine (hh.out _ E).mono ?_; clear hh; rintro e v4 ⟨rfl, h⟩)
    replace E := E.trans h
    clear h
    go_wp2_with (go_at_call 24; have hh := H6; clear H6; refine (hh.out _ E).mono ?_; clear hh; rintro e v5 ⟨rfl, h⟩)
    replace E := E.trans h
    clear h
    go_wp2_with (go_at_call 31; have hh := H7; clear H7; refine (hh.out _ E).mono ?_; clear hh; rintro e v6 ⟨rfl, h⟩)
    replace E := E.trans h
    clear h
    go_wp2_with (go_at_call 37; have hh := H8; clear H8; refine (hh.out _ E).mono ?_; clear hh; rintro e v7 ⟨rfl, h⟩)
    replace E := E.trans h
    clear h
    go_wp2_with (go_at_call 37; have hh := H9; clear H9; refine (hh.out _ E).mono ?_; clear hh; rintro e v8 ⟨rfl, h⟩)
    replace E := E.trans h
    clear h
    go_wp2_with (go_at_call 48; have hh := H10; clear H10; refine (hh.out _ E).mono ?_; clear hh; rintro e v9 ⟨rfl, h⟩)
    replace E := E.trans h
    clear h
    go_wp2_with (go_at_call 48; have hh := H11; clear H11; refine (hh.out _ E).mono ?_; clear hh; rintro e v10 ⟨rfl, h⟩)
    replace E := E.trans h
    clear h
    go_wp2_with (go_at_call 13; refine (HA.out _ E).mono ?_; rintro e v11 ⟨rfl, h⟩)
    replace E := E.trans h
    clear h
    go_wp2
    go_ret
    exact ⟨rfl, E⟩
end Go.Proofs.YtpfanpkinlklnaaGreatDoor
