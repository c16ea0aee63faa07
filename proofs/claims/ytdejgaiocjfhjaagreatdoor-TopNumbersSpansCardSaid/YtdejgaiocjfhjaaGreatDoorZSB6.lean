/- Steps of the proof: FCmpF, EChk, FSums, EChd, EOrd, EOrd2, EOrd3, EOf, EPt, EHull, EFourE, EMeet, EMeetR, EBel, EEnds. No conditions. -/
import Derived.LoopN
import Derived.Test.YtdejgaiocjfhjaaGreatDoorZSB1
import Derived.Test.YtdejgaiocjfhjaaGreatDoorZSB2
import Derived.Test.YtdejgaiocjfhjaaGreatDoorZSB3
import Derived.Test.YtdejgaiocjfhjaaGreatDoorZSB4
import Derived.Test.YtdejgaiocjfhjaaGreatDoorZSB5
namespace Go.Proofs.YtdejgaiocjfhjaaGreatDoor
open Go.RowKit
open Go.Lib (decDigits itoa)
theorem cmp_num2 {a b : Txt} (ea : fracE a = 0) (eb : fracE b = 0) : cmpS a b = (signN (sumN (numOf a) (negN (numOf b))), 0) := by
  obtain ⟨h1, h2⟩ := sumN_val (x := numOf a) (y := negN (numOf b)) (numOf_len ea).2 (numOf_len eb).2
  have h3 : valQ (sumN (numOf a) (negN (numOf b))) = fracQ a - fracQ b := by rw [h1, negN_val, numOf_val, numOf_val, Rat.sub_eq_add_neg]
  unfold cmpS ifOk
  rw [if_pos (bothE_zero ea eb), ← h3]
  unfold valQ signN
  rw [num_sign h2]
set_option maxHeartbeats 16000000 in
set_option maxRecDepth 100000 in
theorem compareF_any (a b : Txt) (w : World) (hG : Glob w) (ha : a.length ≤ 400) (hb : b.length ≤ 400) :
    Calls Tryz.prog 89 #[txt a, txt b] w (IntP (cmpS a b).1 (cmpS a b).2 w) := by
  have HPA := Lib.hid (fun W (hW : Ext w W) => parsed_any a W (hG.ext hW) ha)
  have HPB := Lib.hid (fun W (hW : Ext w W) => parsed_any b W (hG.ext hW) hb)
  clear hG
  unfold IntP
  go_enter Tryz.func89, Tryz.ntmps89
  go_wp2_with fail
  refine (HPA.out _ (Ext.refl _)).mono ?_
  rintro e w1 ⟨v1, rfl, ⟨s1, ta, tn, tc, ba, bn, bc, rfl⟩, hn1, hE⟩
  have HN1 := Lib.hid hn1
  clear hn1 HPA
  by_cases ea : fracE a = 0
  rotate_left
  · have HR : Hid (cmpS a b = (0, fracE a)) := by show _ = _; unfold cmpS ifOk; rw [bothE_left ea, if_neg ea]
    have hne : (((fracE a : Nat) : Int) != 0) = true := by rw [bne_iff_ne]; omega
    clear HN1 HPB
    generalize fracE a = n at *
    go_wp2_with fail
    go_ret2
    exact ⟨by rw [HR.out]; rfl, extA⟩
  have HNA := Lib.hid (HN1.out ea)
  rw [ea]
  have HEA := Lib.hid ea
  clear ea HN1
  have hne0 : (((0 : Nat) : Int) != 0) = false := rfl
  have EV : Ext w1 (w1.alloc (.cells #[.bool s1, .slice ta tn tc, .slice ba bn bc] 116)) := extA
  have X : Num3 w1.heap.size (w1.alloc (.cells #[.bool s1, .slice ta tn tc, .slice ba bn bc] 116)) (.bool s1) (.slice ta tn tc) (.slice ba bn bc) := ⟨by go_simp, by go_simp, by go_simp, by go_simp, by go_simp, by go_simp⟩
  have E := hE.trans EV
  replace HNA := Lib.hid (HNA.out.ext EV)
  clear EV hE
  go_wp2_with fail
  obtain ⟨xb, hxb⟩ : ∃ xb, xb = w1.heap.size := ⟨_, rfl⟩
  rw [← hxb] at X ⊢
  clear hxb
  generalize (w1.alloc (.cells #[.bool s1, .slice ta tn tc, .slice ba bn bc] 116)) = W1 at X E HNA ⊢
  refine (HPB.out _ E).mono ?_
  rintro e w3 ⟨v2, rfl, ⟨s2, ua, un, uc, va, vn, vc, rfl⟩, hn2, hE⟩
  replace X := X.ext hE
  replace E := E.trans hE
  replace HNA := Lib.hid (HNA.out.ext hE)
  have HN2 := Lib.hid hn2
  clear hn2 HPB hE
  by_cases eb : fracE b = 0
  rotate_left
  · have HR : Hid (cmpS a b = (0, fracE b)) := by show _ = _; unfold cmpS ifOk; rw [bothE_right HEA.out, if_neg eb]
    have hne : (((fracE b : Nat) : Int) != 0) = true := by rw [bne_iff_ne]; omega
    clear HN2 HEA
    generalize fracE b = n at *
    go_wp2_with fail
    go_ret2
    exact ⟨by rw [HR.out]; rfl, extA⟩
  have HNB := Lib.hid (HN2.out eb)
  have HR := Lib.hid (cmp_num2 HEA.out eb)
  have hxa := (numOf_len HEA.out).1
  have hyb := (numOf_len eb).1
  rw [eb]
  clear eb HN2 HEA
  have EV : Ext w3 (w3.alloc (.cells #[.bool s2, .slice ua un uc, .slice va vn vc] 116)) := extA
  have Y : Num3 w3.heap.size (w3.alloc (.cells #[.bool s2, .slice ua un uc, .slice va vn vc] 116)) (.bool s2) (.slice ua un uc) (.slice va vn vc) := ⟨by go_simp, by go_simp, by go_simp, by go_simp, by go_simp, by go_simp⟩
  replace X := X.ext EV
  replace E := E.trans EV
  replace HNA := Lib.hid (HNA.out.ext EV)
  replace HNB := Lib.hid (HNB.out.ext EV)
  clear EV
  generalize numOf a = NA at *
  generalize numOf b = NB at *
  go_wp2_with fail
  obtain ⟨yb, hyb2⟩ : ∃ yb, yb = w3.heap.size := ⟨_, rfl⟩
  rw [← hyb2] at Y ⊢
  clear hyb2
  generalize (w3.alloc (.cells #[.bool s2, .slice ua un uc, .slice va vn vc] 116)) = W3 at X Y E HNA HNB ⊢
  have hdr : Ext W3 W3.drew := extA
  replace X := X.ext hdr
  replace Y := Y.ext hdr
  replace E := E.trans hdr
  replace HNA := Lib.hid (HNA.out.ext hdr)
  replace HNB := Lib.hid (HNB.out.ext hdr)
  have hS : W3.drew.cell? ⟨xb, 0, none⟩ = some (.bool s1) ∧ W3.drew.cell? ⟨xb, 1, none⟩ = some (.slice ta tn tc) ∧ W3.drew.cell? ⟨xb, 2, none⟩ = some (.slice ba bn bc) ∧ W3.drew.cell? ⟨yb, 0, none⟩ = some (.bool s2) ∧ W3.drew.cell? ⟨yb, 1, none⟩ = some (.slice ua un uc) ∧ W3.drew.cell? ⟨yb, 2, none⟩ = some (.slice va vn vc) := ⟨X.c0, X.c1, X.c2, Y.c0, Y.c1, Y.c2⟩
  refine wp_region_heldE 99 (fun w' => w'.cell? ⟨xb, 0, none⟩ = some (.bool s1) ∧ w'.cell? ⟨xb, 1, none⟩ = some (.slice ta tn tc) ∧ w'.cell? ⟨xb, 2, none⟩ = some (.slice ba bn bc) ∧ w'.cell? ⟨yb, 0, none⟩ = some (.bool s2) ∧ w'.cell? ⟨yb, 1, none⟩ = some (.slice ua un uc) ∧ w'.cell? ⟨yb, 2, none⟩ = some (.slice va vn vc)) (by kernel_rfl) ?_
  clear hdr X Y
  generalize W3.drew = W4 at E HNA HNB hS ⊢
  ((refine eTk 0 ?_); (refine eTk 1 ?_))
  (refine wpAnyE_one (i := 2) (o := ?_) ?_ (by kernel_rfl) (fun K hK => ?_); rotate_left; (focus ((simp only [List.getElem?_toArray, List.getElem?_cons_succ, List.getElem?_cons_zero]; exact rfl))); go_simp; go_at_call 124; refine (opposite_any NB _ _ HNB.out).mono ?_; rintro e w5 ⟨v5, rfl, h5, hE⟩; go_wp2_with fail; refine hK.out _ _ ?_ (fun hHeld => ?_); rotate_left; clear hK K; (try simp only [Act.put, List.setIfInBounds_toArray, List.set_cons_zero, List.set_cons_succ]))
  rotate_left
  · exact ⟨hE.cell hS.1, hE.cell hS.2.1, hE.cell hS.2.2.1, hE.cell hS.2.2.2.1, hE.cell hS.2.2.2.2.1, hE.cell hS.2.2.2.2.2⟩
  have hS5 : w5.cell? ⟨xb, 0, none⟩ = some (.bool s1) ∧ w5.cell? ⟨xb, 1, none⟩ = some (.slice ta tn tc) ∧ w5.cell? ⟨xb, 2, none⟩ = some (.slice ba bn bc) ∧ w5.cell? ⟨yb, 0, none⟩ = some (.bool s2) ∧ w5.cell? ⟨yb, 1, none⟩ = some (.slice ua un uc) ∧ w5.cell? ⟨yb, 2, none⟩ = some (.slice va vn vc) := ⟨hE.cell hS.1, hE.cell hS.2.1, hE.cell hS.2.2.1, hE.cell hS.2.2.2.1, hE.cell hS.2.2.2.2.1, hE.cell hS.2.2.2.2.2⟩
  replace E := E.trans hE
  replace HNA := Lib.hid (HNA.out.ext hE)
  have HV5 := Lib.hid h5
  clear hS hE h5 hHeld HNB
  (refine wpAnyE_one (i := 3) (o := ?_) ?_ (by kernel_rfl) (fun K hK => ?_); rotate_left; (focus ((simp only [List.getElem?_toArray, List.getElem?_cons_succ, List.getElem?_cons_zero]; exact rfl))); go_simp; go_at_call 123; refine (sum_any NA (negN NB) _ v5 w5 HNA.out HV5.out hxa hyb).mono ?_; rintro e w6 ⟨v6, rfl, h6, _, hE⟩; go_wp2_with fail; refine hK.out _ _ ?_ (fun hHeld => ?_); rotate_left; clear hK K; (try simp only [Act.put, List.setIfInBounds_toArray, List.set_cons_zero, List.set_cons_succ]))
  rotate_left
  · exact ⟨hE.cell hS5.1, hE.cell hS5.2.1, hE.cell hS5.2.2.1, hE.cell hS5.2.2.2.1, hE.cell hS5.2.2.2.2.1, hE.cell hS5.2.2.2.2.2⟩
  have hS6 : w6.cell? ⟨xb, 0, none⟩ = some (.bool s1) ∧ w6.cell? ⟨xb, 1, none⟩ = some (.slice ta tn tc) ∧ w6.cell? ⟨xb, 2, none⟩ = some (.slice ba bn bc) ∧ w6.cell? ⟨yb, 0, none⟩ = some (.bool s2) ∧ w6.cell? ⟨yb, 1, none⟩ = some (.slice ua un uc) ∧ w6.cell? ⟨yb, 2, none⟩ = some (.slice va vn vc) := ⟨hE.cell hS5.1, hE.cell hS5.2.1, hE.cell hS5.2.2.1, hE.cell hS5.2.2.2.1, hE.cell hS5.2.2.2.2.1, hE.cell hS5.2.2.2.2.2⟩
  replace E := E.trans hE
  have HV6 := Lib.hid h6
  clear hS5 hE h6 hHeld HNA HV5
  generalize sumN NA (negN NB) = SN at *
  (refine wpAnyE_one (i := 4) (o := ?_) ?_ (by kernel_rfl) (fun K hK => ?_); rotate_left; (focus ((simp only [List.getElem?_toArray, List.getElem?_cons_succ, List.getElem?_cons_zero]; exact rfl))); go_simp; go_at_call 94; refine (sign_any SN v6 w6 HV6.out).mono ?_; rintro e w7 ⟨rfl, hE⟩; go_wp2_with fail; refine hK.out _ _ ?_ (fun hHeld => ?_); rotate_left; clear hK K; (try simp only [Act.put, List.setIfInBounds_toArray, List.set_cons_zero, List.set_cons_succ]))
  rotate_left
  · exact ⟨hE.cell hS6.1, hE.cell hS6.2.1, hE.cell hS6.2.2.1, hE.cell hS6.2.2.2.1, hE.cell hS6.2.2.2.2.1, hE.cell hS6.2.2.2.2.2⟩
  have hS7 : w7.cell? ⟨xb, 0, none⟩ = some (.bool s1) ∧ w7.cell? ⟨xb, 1, none⟩ = some (.slice ta tn tc) ∧ w7.cell? ⟨xb, 2, none⟩ = some (.slice ba bn bc) ∧ w7.cell? ⟨yb, 0, none⟩ = some (.bool s2) ∧ w7.cell? ⟨yb, 1, none⟩ = some (.slice ua un uc) ∧ w7.cell? ⟨yb, 2, none⟩ = some (.slice va vn vc) := ⟨hE.cell hS6.1, hE.cell hS6.2.1, hE.cell hS6.2.2.1, hE.cell hS6.2.2.2.1, hE.cell hS6.2.2.2.2.1, hE.cell hS6.2.2.2.2.2⟩
  replace E := E.trans hE
  clear hS6 hE hHeld
  ((refine ePu 5 ?_); (refine ePu 6 ?_))
  clear hS7
  refine wpAnyE_done (by kernel_rfl) ?_ _
  go_wp2_with fail
  go_ret2
  exact ⟨by rw [HR.out]; rfl, E⟩
end Go.Proofs.YtdejgaiocjfhjaaGreatDoor
namespace Go.Proofs.YtdejgaiocjfhjaaGreatDoor
open Go.RowKit
open Go.Lib (decDigits itoa)
abbrev encV (a : Enc) : Value := .agg #[txt a.1, txt a.2]
def EncP (r : EncR) (w : World) (e : Ending) (w' : World) : Prop := e = .returned (.tuple #[encV r.1, .int .i64 (r.2 : Nat)]) ∧ Ext w w'
theorem cmp_bad {a b : Txt} (h : bothE a b ≠ 0) : cmpS a b = (0, bothE a b) := by unfold cmpS ifOk; rw [if_neg h]
theorem cmp_good {a b : Txt} (h : bothE a b = 0) : cmpS a b = (ordQ a b, 0) := by unfold cmpS ifOk; rw [if_pos h]; rfl
theorem encE_bad {a : Enc} (h : bothE a.1 a.2 ≠ 0) : encE a = bothE a.1 a.2 := by unfold encE; rw [if_neg h]
theorem encE_good {a : Enc} (h : bothE a.1 a.2 = 0) : encE a = if 0 < ordQ a.1 a.2 then 9 else 0 := by unfold encE; rw [if_pos h]
set_option maxHeartbeats 4000000 in
set_option maxRecDepth 100000 in
theorem eCheck_any (a : Enc) (w : World) (hG : Glob w) (hl : LenE a) : Calls Tryz.prog 44 #[encV a] w fun e w' => e = .returned (.int .i64 (encE a : Nat)) ∧ Ext w w' := by
  obtain ⟨l, h⟩ := a
  have HC := Lib.hid (fun W (hW : Ext w W) => compareF_any l h W (hG.ext hW) hl.1 hl.2)
  clear hG
  unfold IntP at HC
  have E : Ext w (w.alloc (.cells #[txt l, txt h] 24)) := extA
  by_cases hb : bothE l h = 0
  · rw [cmp_good hb] at HC
    have HE : Hid (encE (l, h) = if 0 < ordQ l h then 9 else 0) := encE_good (a := (l, h)) hb
    clear hb hl
    generalize ordQ l h = z at *
    have hne0 : (((0 : Nat) : Int) != 0) = false := rfl
    by_cases hz : 0 < z
    · have HR : Hid (encE (l, h) = 9) := by show _ = _; rw [HE.out, if_pos hz]
      clear HE
      go_enter Tryz.func44, Tryz.ntmps44
      go_wp2_with (go_at_call 89; refine (HC.out _ E).mono ?_; rintro e w1 ⟨rfl, hE⟩)
      go_ret
      exact ⟨by rw [HR.out]; rfl, E.trans hE⟩
    · have HR : Hid (encE (l, h) = 0) := by show _ = _; rw [HE.out, if_neg hz]
      clear HE
      go_enter Tryz.func44, Tryz.ntmps44
      go_wp2_with (go_at_call 89; refine (HC.out _ E).mono ?_; rintro e w1 ⟨rfl, hE⟩)
      go_ret
      exact ⟨by rw [HR.out]; rfl, E.trans hE⟩
  · rw [cmp_bad hb] at HC
    have HR : Hid (encE (l, h) = bothE l h) := encE_bad (a := (l, h)) hb
    have hne : (((bothE l h : Nat) : Int) != 0) = true := by rw [bne_iff_ne]; omega
    clear hb hl
    generalize bothE l h = n at *
    go_enter Tryz.func44, Tryz.ntmps44
    go_wp2_with (go_at_call 89; refine (HC.out _ E).mono ?_; rintro e w1 ⟨rfl, hE⟩)
    go_ret
    exact ⟨by rw [HR.out]; rfl, E.trans hE⟩
end Go.Proofs.YtdejgaiocjfhjaaGreatDoor
namespace Go.Proofs.YtdejgaiocjfhjaaGreatDoor
open Go.RowKit
open Go.Lib (decDigits itoa)
end Go.Proofs.YtdejgaiocjfhjaaGreatDoor
namespace Go.Proofs.YtdejgaiocjfhjaaGreatDoor
open Go.RowKit
theorem cell_new2 (w : World) (arr : Array Value) (t : TypeId) (i : Nat) (v : Value) (h : arr[i]? = some v) : (w.alloc (.cells arr t)).cell? ⟨w.heap.size, i, none⟩ = some v := by
  have hh : (w.alloc (.cells arr t)).heap[w.heap.size]? = some (.cells arr t) := by show (w.heap.push _)[w.heap.size]? = _; rw [Array.getElem?_push, if_pos rfl]
  simp only [World.cell?, hh]
  first | exact h | (rw [h]; rfl)
def CellsE (w : World) (a : Option Addr) (l : List Enc) : Prop :=
  ∀ i, i < l.length → ∃ b off, a = some ⟨b, off, none⟩ ∧ w.cell? ⟨b, off + i * 2, none⟩ = some (txt (l.getD i ([], [])).1) ∧ w.cell? ⟨b, off + i * 2 + 1, none⟩ = some (txt (l.getD i ([], [])).2)
theorem CellsE.ext {w w' : World} {a : Option Addr} {l : List Enc} (h : CellsE w a l) (he : Ext w w') : CellsE w' a l := fun i hi => by
  obtain ⟨b, off, h1, h2, h3⟩ := h i hi
  exact ⟨b, off, h1, he.cell h2, he.cell h3⟩
def firstEE : List Enc → Nat
  | [] => 0
  | a :: l => if encE a = 0 then firstEE l else encE a
theorem firstEE_two (a b : Enc) : firstEE [a, b] = bothEE a b := by
  unfold firstEE bothEE
  split
  · unfold firstEE
    split
    · rename_i h; rw [h]; rfl
    · rfl
  · rfl
theorem getD_enc {l : List Enc} {k : Nat} (h : k < l.length) : l.getD k ([], []) = l[k] := by simp [List.getD, h]
theorem mem_enc {l : List Enc} {k : Nat} (h : k < l.length) : l.getD k ([], []) ∈ l := by rw [getD_enc h]; exact List.getElem_mem h
theorem firstEE_drop {l : List Enc} {k : Nat} (h : k < l.length) : firstEE (l.drop k) = if encE (l.getD k ([], [])) = 0 then firstEE (l.drop (k + 1)) else encE (l.getD k ([], [])) := by
  rw [List.drop_eq_getElem_cons h, getD_enc h]; rfl
set_option maxHeartbeats 4000000 in
set_option maxRecDepth 100000 in
theorem eChecked_any (l : List Enc) (a : Option Addr) (cap : Nat) (w : World) (hG : Glob w) (hc : CellsE w a l) (hm : l.length ≤ 1000) (hl : ∀ x ∈ l, LenE x) :
    Calls Tryz.prog 79 #[.slice a l.length cap] w fun e w' => e = .returned (.int .i64 (firstEE l : Nat)) ∧ Ext w w' := by
  have HC := Lib.hid hc
  have HK := Lib.hid (fun k (hk : k < l.length) W (hW : Ext w W) => eCheck_any (l.getD k ([], [])) W (hG.ext hW) (hl _ (mem_enc hk)))
  obtain ⟨S, hS⟩ : ∃ S, S = firstEE l := ⟨_, rfl⟩
  have HS := Lib.hid hS
  rw [← hS]
  clear hc hl hG hS
  go_enter Tryz.func79, Tryz.ntmps79
  go_wp2
  go_loopw [8] (fun i wr => ∃ k : Nat, k ≤ l.length ∧ i = .int .i64 k ∧ Hid (S = firstEE (l.drop k)) ∧ Ext w wr) (fun i _ => l.length - (intOf i).toNat)
  case atStart => exact ⟨0, by omega, rfl, HS.out, Ext.refl _⟩
  case round =>
    obtain ⟨k, hk, rfl, HE, he⟩ := hrel
    by_cases hlt : k < l.length
    · have hki : (k : Int) < (l.length : Int) := by omega
      obtain ⟨b, off, ha, hc1, hc2⟩ := HC.out.ext he k hlt
      subst ha
      have HKX := Lib.hid (HK.out k hlt)
      have hst := firstEE_drop hlt
      by_cases hx : encE (l.getD k ([], [])) = 0
      · have HE2 : Hid (S = firstEE (l.drop (k + 1))) := by show _ = _; rw [HE.out, hst, if_pos hx]
        rw [hx] at HKX
        generalize l.getD k ([], []) = x at hc1 hc2 HKX
        obtain ⟨x1, x2⟩ := x
        dsimp only [encV] at hc1 hc2 HKX
        clear hx HE hst
        go_wp2_with (go_at_call 44; refine (HKX.out _ extA).mono ?_; rintro e w1 ⟨rfl, hE⟩)
        refine ⟨⟨k + 1, by omega, by go_num, HE2, (he.trans ((Ext.refl _).alloc _)).trans hE⟩, by simp [intOf]; omega⟩
      · have hfe : S = encE (l.getD k ([], [])) := by rw [HE.out, hst, if_neg hx]
        have HR := Lib.hid hfe
        have hne : (((encE (l.getD k ([], [])) : Nat) : Int) != 0) = true := by rw [bne_iff_ne]; omega
        clear hx HE hst hfe
        generalize encE (l.getD k ([], [])) = n at *
        generalize l.getD k ([], []) = x at hc1 hc2 HKX
        obtain ⟨x1, x2⟩ := x
        dsimp only [encV] at hc1 hc2 HKX
        go_wp2_with (go_at_call 44; refine (HKX.out _ extA).mono ?_; rintro e w1 ⟨rfl, hE⟩)
        go_ret
        exact ⟨by rw [HR.out]; rfl, (he.trans ((Ext.refl _).alloc _)).trans hE⟩
    · have hki : ¬ (k : Int) < (l.length : Int) := by omega
      have HR : Hid (S = 0) := by show _ = _; rw [HE.out, List.drop_eq_nil_of_le (by omega)]; rfl
      clear HE
      go_wp2
      go_ret
      exact ⟨by rw [HR.out]; rfl, he⟩
end Go.Proofs.YtdejgaiocjfhjaaGreatDoor
namespace Go.Proofs.YtdejgaiocjfhjaaGreatDoor
open Go.RowKit
def BoolP (b : Bool) (n : Nat) (w : World) (e : Ending) (w' : World) : Prop := e = .returned (.tuple #[.bool b, .int .i64 (n : Nat)]) ∧ Ext w w'
theorem bothEE_two {a b : Enc} (h : bothEE a b = 0) : encE a = 0 ∧ encE b = 0 := by
  unfold bothEE at h
  by_cases ea : encE a = 0
  · rw [if_pos ea] at h; exact ⟨ea, h⟩
  · rw [if_neg ea] at h; exact absurd h ea
theorem pair_enc (w : World) (a b : Enc) (t : TypeId) : CellsE (w.alloc (.cells #[txt a.1, txt a.2, txt b.1, txt b.2] t)) (some ⟨w.heap.size, 0, none⟩) [a, b] := fun i hi => by
  refine ⟨w.heap.size, 0, rfl, ?_, ?_⟩
  · rcases i with _ | _ | i
    · exact cell_new2 w _ t 0 _ rfl
    · exact cell_new2 w _ t 2 _ rfl
    · simp at hi; omega
  · rcases i with _ | _ | i
    · exact cell_new2 w _ t 1 _ rfl
    · exact cell_new2 w _ t 3 _ rfl
    · simp at hi; omega
set_option maxHeartbeats 2000000 in
theorem eOrder_any (a b : Txt) (w : World) (hG : Glob w) (ha : a.length ≤ 400) (hb : b.length ≤ 400) (h0 : bothE a b = 0) : Calls Tryz.prog 84 #[txt a, txt b] w fun e w' => e = .returned (.int .i64 (ordQ a b)) ∧ Ext w w' := by
  have HC := Lib.hid (compareF_any a b w hG ha hb)
  rw [cmp_good h0] at HC
  unfold IntP at HC
  clear hG h0
  generalize ordQ a b = z at *
  go_enter Tryz.func84, Tryz.ntmps84
  go_wp2_with (go_at_call 89; refine HC.out.mono ?_; rintro e w1 ⟨rfl, hE⟩)
  go_ret
  exact ⟨rfl, hE⟩
end Go.Proofs.YtdejgaiocjfhjaaGreatDoor
namespace Go.Proofs.YtdejgaiocjfhjaaGreatDoor
open Go.RowKit
structure Right2 (l h m k : Txt) : Prop where
  l : fracE l = 0
  h : fracE h = 0
  m : fracE m = 0
  k : fracE k = 0
set_option maxHeartbeats 4000000 in
set_option maxRecDepth 100000 in
theorem eCompare_any (a b : Enc) (w : World) (hG : Glob w) (hl : LenE a) (hm : LenE b) : Calls Tryz.prog 34 #[encV a, encV b] w (IntP (compareE a b).1 (compareE a b).2 w) := by
  have HB : Hid (∀ W (v : World) (n : Nat), n = v.heap.size → W = v.alloc (.cells #[txt a.1, txt a.2, txt b.1, txt b.2] 24) → Ext w W → Calls Tryz.prog 79 #[.slice (some ⟨n, 0, none⟩) 2 2] W fun e w' => e = .returned (.int .i64 (bothEE a b : Nat)) ∧ Ext W w') := fun W v n hn hW h => by
    rw [hn]
    have k := eChecked_any [a, b] (some ⟨v.heap.size, 0, none⟩) 2 W (hG.ext h) (by rw [hW]; exact pair_enc v a b _) (by simp) (fun x hx => by
      simp only [List.mem_cons, List.mem_nil_iff, or_false] at hx
      rcases hx with rfl | rfl
      · exact hl
      · exact hm)
    rw [firstEE_two] at k
    exact k
  unfold IntP
  by_cases e0 : bothEE a b = 0
  · obtain ⟨ea, eb⟩ := bothEE_two e0
    obtain ⟨f1, f2, _⟩ := enc_right ea
    obtain ⟨f3, f4, _⟩ := enc_right eb
    have HO1 := Lib.hid (fun W (h : Ext w W) => eOrder_any a.2 b.1 W (hG.ext h) hl.2 hm.1 (bothE_zero f2 f3))
    have HO2 := Lib.hid (fun W (h : Ext w W) => eOrder_any a.1 b.2 W (hG.ext h) hl.1 hm.2 (bothE_zero f1 f4))
    have HSU : Hid (compareE a b = ((if ordQ a.2 b.1 < 0 then -1 else if 0 < ordQ a.1 b.2 then 1 else 0), 0)) := by show _ = _; unfold compareE sureE; rw [if_neg (not_not_intro e0)]
    rw [e0] at HB
    clear e0 ea eb f1 f2 f3 f4 hl hm hG
    obtain ⟨l, h⟩ := a
    obtain ⟨m, k⟩ := b
    dsimp only [encV] at HB HO1 HO2 HSU ⊢
    have hne0 : (((0 : Nat) : Int) != 0) = false := rfl
    generalize ordQ h m = z1 at *
    generalize ordQ l k = z2 at *
    obtain ⟨C, hC⟩ : ∃ C, C = compareE (l, h) (m, k) := ⟨_, rfl⟩
    rw [← hC] at HSU ⊢
    clear hC
    by_cases h1 : z1 < 0
    · have HR : Hid (C = (-1, 0)) := by show _ = _; rw [HSU.out, if_pos h1]
      have c0 : (((w.alloc (.cells #[txt l, txt h] 24)).alloc (.cells #[txt m, txt k] 24)).alloc (.cells #[txt l, txt h, txt m, txt k] 24)).cell? ⟨w.heap.size, 0, none⟩ = some (txt l) := by go_simp
      have c1 : (((w.alloc (.cells #[txt l, txt h] 24)).alloc (.cells #[txt m, txt k] 24)).alloc (.cells #[txt l, txt h, txt m, txt k] 24)).cell? ⟨w.heap.size, 1, none⟩ = some (txt h) := by go_simp
      have c2 : (((w.alloc (.cells #[txt l, txt h] 24)).alloc (.cells #[txt m, txt k] 24)).alloc (.cells #[txt l, txt h, txt m, txt k] 24)).cell? ⟨w.heap.size + 1, 0, none⟩ = some (txt m) := by go_simp
      have c3 : (((w.alloc (.cells #[txt l, txt h] 24)).alloc (.cells #[txt m, txt k] 24)).alloc (.cells #[txt l, txt h, txt m, txt k] 24)).cell? ⟨w.heap.size + 1, 1, none⟩ = some (txt k) := by go_simp
      go_enter Tryz.func34, Tryz.ntmps34
      go_wp2_with (go_at_call 79; refine (HB.out _ ((w.alloc (.cells #[txt l, txt h] 24)).alloc (.cells #[txt m, txt k] 24)) _ (by simp) rfl extA).mono ?_; rintro e w3 ⟨rfl, hE3⟩; have c0 := hE3.cell c0; have c1 := hE3.cell c1; have c2 := hE3.cell c2; have c3 := hE3.cell c3)
      go_wp2_with (go_at_call 84; with_reducible refine (HO1.out _ extA).mono ?_; rintro e w1 ⟨rfl, hE1⟩; have c0 := hE1.cell c0; have c1 := hE1.cell c1; have c2 := hE1.cell c2; have c3 := hE1.cell c3)
      go_ret2
      exact ⟨by rw [HR.out]; rfl, extA⟩
    · by_cases h2 : 0 < z2
      · have HR : Hid (C = (1, 0)) := by show _ = _; rw [HSU.out, if_neg h1, if_pos h2]
        have c0 : (((w.alloc (.cells #[txt l, txt h] 24)).alloc (.cells #[txt m, txt k] 24)).alloc (.cells #[txt l, txt h, txt m, txt k] 24)).cell? ⟨w.heap.size, 0, none⟩ = some (txt l) := by go_simp
        have c1 : (((w.alloc (.cells #[txt l, txt h] 24)).alloc (.cells #[txt m, txt k] 24)).alloc (.cells #[txt l, txt h, txt m, txt k] 24)).cell? ⟨w.heap.size, 1, none⟩ = some (txt h) := by go_simp
        have c2 : (((w.alloc (.cells #[txt l, txt h] 24)).alloc (.cells #[txt m, txt k] 24)).alloc (.cells #[txt l, txt h, txt m, txt k] 24)).cell? ⟨w.heap.size + 1, 0, none⟩ = some (txt m) := by go_simp
        have c3 : (((w.alloc (.cells #[txt l, txt h] 24)).alloc (.cells #[txt m, txt k] 24)).alloc (.cells #[txt l, txt h, txt m, txt k] 24)).cell? ⟨w.heap.size + 1, 1, none⟩ = some (txt k) := by go_simp
        go_enter Tryz.func34, Tryz.ntmps34
        go_wp2_with (go_at_call 79; refine (HB.out _ ((w.alloc (.cells #[txt l, txt h] 24)).alloc (.cells #[txt m, txt k] 24)) _ (by simp) rfl extA).mono ?_; rintro e w3 ⟨rfl, hE3⟩; have c0 := hE3.cell c0; have c1 := hE3.cell c1; have c2 := hE3.cell c2; have c3 := hE3.cell c3)
        go_wp2_with (go_at_call 84; with_reducible refine (HO1.out _ extA).mono ?_; rintro e w1 ⟨rfl, hE1⟩; have c0 := hE1.cell c0; have c1 := hE1.cell c1; have c2 := hE1.cell c2; have c3 := hE1.cell c3)
        go_wp2_with (go_at_call 84; with_reducible refine (HO2.out _ extA).mono ?_; rintro e w2 ⟨rfl, hE2⟩; skip)
        go_ret2
        exact ⟨by rw [HR.out]; rfl, extA⟩
      · have HR : Hid (C = (0, 0)) := by show _ = _; rw [HSU.out, if_neg h1, if_neg h2]
        have c0 : (((w.alloc (.cells #[txt l, txt h] 24)).alloc (.cells #[txt m, txt k] 24)).alloc (.cells #[txt l, txt h, txt m, txt k] 24)).cell? ⟨w.heap.size, 0, none⟩ = some (txt l) := by go_simp
        have c1 : (((w.alloc (.cells #[txt l, txt h] 24)).alloc (.cells #[txt m, txt k] 24)).alloc (.cells #[txt l, txt h, txt m, txt k] 24)).cell? ⟨w.heap.size, 1, none⟩ = some (txt h) := by go_simp
        have c2 : (((w.alloc (.cells #[txt l, txt h] 24)).alloc (.cells #[txt m, txt k] 24)).alloc (.cells #[txt l, txt h, txt m, txt k] 24)).cell? ⟨w.heap.size + 1, 0, none⟩ = some (txt m) := by go_simp
        have c3 : (((w.alloc (.cells #[txt l, txt h] 24)).alloc (.cells #[txt m, txt k] 24)).alloc (.cells #[txt l, txt h, txt m, txt k] 24)).cell? ⟨w.heap.size + 1, 1, none⟩ = some (txt k) := by go_simp
        go_enter Tryz.func34, Tryz.ntmps34
        go_wp2_with (go_at_call 79; refine (HB.out _ ((w.alloc (.cells #[txt l, txt h] 24)).alloc (.cells #[txt m, txt k] 24)) _ (by simp) rfl extA).mono ?_; rintro e w3 ⟨rfl, hE3⟩; have c0 := hE3.cell c0; have c1 := hE3.cell c1; have c2 := hE3.cell c2; have c3 := hE3.cell c3)
        go_wp2_with (go_at_call 84; with_reducible refine (HO1.out _ extA).mono ?_; rintro e w1 ⟨rfl, hE1⟩; have c0 := hE1.cell c0; have c1 := hE1.cell c1; have c2 := hE1.cell c2; have c3 := hE1.cell c3)
        go_wp2_with (go_at_call 84; with_reducible refine (HO2.out _ extA).mono ?_; rintro e w2 ⟨rfl, hE2⟩; skip)
        go_ret2
        exact ⟨by rw [HR.out]; rfl, extA⟩
  · have HR : Hid (compareE a b = (0, bothEE a b)) := by show _ = _; unfold compareE; rw [if_pos e0]
    have hne : (((bothEE a b : Nat) : Int) != 0) = true := by rw [bne_iff_ne]; omega
    rw [HR.out]
    clear e0 HR hl hm hG
    generalize bothEE a b = n at *
    obtain ⟨l, h⟩ := a
    obtain ⟨m, k⟩ := b
    dsimp only [encV] at HB ⊢
    go_enter Tryz.func34, Tryz.ntmps34
    go_wp2_with (go_at_call 79; refine (HB.out _ ((w.alloc (.cells #[txt l, txt h] 24)).alloc (.cells #[txt m, txt k] 24)) _ (by simp) rfl extA).mono ?_; rintro e w3 ⟨rfl, hE3⟩; skip)
    go_ret2
    exact ⟨rfl, extA⟩
end Go.Proofs.YtdejgaiocjfhjaaGreatDoor
namespace Go.Proofs.YtdejgaiocjfhjaaGreatDoor
open Go.RowKit
theorem checked_two (a b : Enc) (w : World) (hG : Glob w) (hl : LenE a) (hm : LenE b) : ∀ W (v : World) (n : Nat), n = v.heap.size → W = v.alloc (.cells #[txt a.1, txt a.2, txt b.1, txt b.2] 24) → Ext w W → Calls Tryz.prog 79 #[.slice (some ⟨n, 0, none⟩) 2 2] W fun e w' => e = .returned (.int .i64 (bothEE a b : Nat)) ∧ Ext W w' := fun W v n hn hW h => by
  rw [hn]
  have k := eChecked_any [a, b] (some ⟨v.heap.size, 0, none⟩) 2 W (hG.ext h) (by rw [hW]; exact pair_enc v a b _) (by simp) (fun x hx => by
    simp only [List.mem_cons, List.mem_nil_iff, or_false] at hx
    rcases hx with rfl | rfl
    · exact hl
    · exact hm)
  rw [firstEE_two] at k
  exact k
set_option maxHeartbeats 4000000 in
set_option maxRecDepth 100000 in
theorem eWithin_any (a b : Enc) (w : World) (hG : Glob w) (hl : LenE a) (hm : LenE b) : Calls Tryz.prog 32 #[encV a, encV b] w (BoolP (withinE a b).1 (withinE a b).2 w) := by
  have HB := Lib.hid (checked_two a b w hG hl hm)
  unfold BoolP
  by_cases e0 : bothEE a b = 0
  · obtain ⟨ea, eb⟩ := bothEE_two e0
    obtain ⟨f1, f2, _⟩ := enc_right ea
    obtain ⟨f3, f4, _⟩ := enc_right eb
    have HO1 := Lib.hid (fun W (h : Ext w W) => eOrder_any b.1 a.1 W (hG.ext h) hm.1 hl.1 (bothE_zero f3 f1))
    have HO2 := Lib.hid (fun W (h : Ext w W) => eOrder_any a.2 b.2 W (hG.ext h) hl.2 hm.2 (bothE_zero f2 f4))
    have HR : Hid (withinE a b = (decide (ordQ b.1 a.1 ≤ 0) && decide (ordQ a.2 b.2 ≤ 0), 0)) := by show _ = _; unfold withinE; rw [if_neg (not_not_intro e0)]
    rw [e0] at HB
    clear e0 ea eb f1 f2 f3 f4 hl hm hG
    obtain ⟨l, h⟩ := a
    obtain ⟨m, k⟩ := b
    dsimp only [encV] at HB HO1 HO2 HR ⊢
    have hne0 : (((0 : Nat) : Int) != 0) = false := rfl
    generalize ordQ m l = z1 at *
    generalize ordQ h k = z2 at *
    obtain ⟨C, hC⟩ : ∃ C, C = withinE (l, h) (m, k) := ⟨_, rfl⟩
    rw [← hC] at HR ⊢
    clear hC
    by_cases h1 : z1 ≤ 0
    · rw [decide_eq_true h1] at HR
      have h1i : ¬ 0 < z1 := by omega
      have c0 : (((w.alloc (.cells #[txt l, txt h] 24)).alloc (.cells #[txt m, txt k] 24)).alloc (.cells #[txt l, txt h, txt m, txt k] 24)).cell? ⟨w.heap.size, 0, none⟩ = some (txt l) := by go_simp
      have c1 : (((w.alloc (.cells #[txt l, txt h] 24)).alloc (.cells #[txt m, txt k] 24)).alloc (.cells #[txt l, txt h, txt m, txt k] 24)).cell? ⟨w.heap.size, 1, none⟩ = some (txt h) := by go_simp
      have c2 : (((w.alloc (.cells #[txt l, txt h] 24)).alloc (.cells #[txt m, txt k] 24)).alloc (.cells #[txt l, txt h, txt m, txt k] 24)).cell? ⟨w.heap.size + 1, 0, none⟩ = some (txt m) := by go_simp
      have c3 : (((w.alloc (.cells #[txt l, txt h] 24)).alloc (.cells #[txt m, txt k] 24)).alloc (.cells #[txt l, txt h, txt m, txt k] 24)).cell? ⟨w.heap.size + 1, 1, none⟩ = some (txt k) := by go_simp
      go_enter Tryz.func32, Tryz.ntmps32
      go_wp2_with (go_at_call 79; refine (HB.out _ ((w.alloc (.cells #[txt l, txt h] 24)).alloc (.cells #[txt m, txt k] 24)) _ (by simp) rfl extA).mono ?_; rintro e w3 ⟨rfl, hE3⟩; have c0 := hE3.cell c0; have c1 := hE3.cell c1; have c2 := hE3.cell c2; have c3 := hE3.cell c3)
      go_wp2_with (go_at_call 84; with_reducible refine (HO1.out _ extA).mono ?_; rintro e w1 ⟨rfl, hE1⟩; have c0 := hE1.cell c0; have c1 := hE1.cell c1; have c2 := hE1.cell c2; have c3 := hE1.cell c3)
      go_wp2_with (go_at_call 84; with_reducible refine (HO2.out _ extA).mono ?_; rintro e w2 ⟨rfl, hE2⟩; skip)
      go_ret2
      exact ⟨by rw [HR.out]; simp, extA⟩
    · rw [decide_eq_false h1] at HR
      have c0 : (((w.alloc (.cells #[txt l, txt h] 24)).alloc (.cells #[txt m, txt k] 24)).alloc (.cells #[txt l, txt h, txt m, txt k] 24)).cell? ⟨w.heap.size, 0, none⟩ = some (txt l) := by go_simp
      have c1 : (((w.alloc (.cells #[txt l, txt h] 24)).alloc (.cells #[txt m, txt k] 24)).alloc (.cells #[txt l, txt h, txt m, txt k] 24)).cell? ⟨w.heap.size, 1, none⟩ = some (txt h) := by go_simp
      have c2 : (((w.alloc (.cells #[txt l, txt h] 24)).alloc (.cells #[txt m, txt k] 24)).alloc (.cells #[txt l, txt h, txt m, txt k] 24)).cell? ⟨w.heap.size + 1, 0, none⟩ = some (txt m) := by go_simp
      have c3 : (((w.alloc (.cells #[txt l, txt h] 24)).alloc (.cells #[txt m, txt k] 24)).alloc (.cells #[txt l, txt h, txt m, txt k] 24)).cell? ⟨w.heap.size + 1, 1, none⟩ = some (txt k) := by go_simp
      go_enter Tryz.func32, Tryz.ntmps32
      go_wp2_with (go_at_call 79; refine (HB.out _ ((w.alloc (.cells #[txt l, txt h] 24)).alloc (.cells #[txt m, txt k] 24)) _ (by simp) rfl extA).mono ?_; rintro e w3 ⟨rfl, hE3⟩; have c0 := hE3.cell c0; have c1 := hE3.cell c1; have c2 := hE3.cell c2; have c3 := hE3.cell c3)
      go_wp2_with (go_at_call 84; with_reducible refine (HO1.out _ extA).mono ?_; rintro e w1 ⟨rfl, hE1⟩; have c0 := hE1.cell c0; have c1 := hE1.cell c1; have c2 := hE1.cell c2; have c3 := hE1.cell c3)
      go_ret2
      exact ⟨by rw [HR.out]; simp, extA⟩
  · have HR : Hid (withinE a b = (false, bothEE a b)) := by show _ = _; unfold withinE; rw [if_pos e0]
    have hne : (((bothEE a b : Nat) : Int) != 0) = true := by rw [bne_iff_ne]; omega
    rw [HR.out]
    clear e0 HR hl hm hG
    generalize bothEE a b = n at *
    obtain ⟨l, h⟩ := a
    obtain ⟨m, k⟩ := b
    dsimp only [encV] at HB ⊢
    go_enter Tryz.func32, Tryz.ntmps32
    go_wp2_with (go_at_call 79; refine (HB.out _ ((w.alloc (.cells #[txt l, txt h] 24)).alloc (.cells #[txt m, txt k] 24)) _ (by simp) rfl extA).mono ?_; rintro e w3 ⟨rfl, hE3⟩; skip)
    go_ret2
    exact ⟨rfl, extA⟩
end Go.Proofs.YtdejgaiocjfhjaaGreatDoor
namespace Go.Proofs.YtdejgaiocjfhjaaGreatDoor
open Go.RowKit
structure EncAt (b : Nat) (W : World) (l h : Txt) : Prop where
  c0 : W.cell? ⟨b, 0, none⟩ = some (txt l)
  c1 : W.cell? ⟨b, 1, none⟩ = some (txt h)
  f0 : W.frozen? ⟨b, 0, none⟩ = false
  f1 : W.frozen? ⟨b, 1, none⟩ = false
theorem EncAt.ext {b : Nat} {A B : World} {l h : Txt} (x : EncAt b A l h) (e : Ext A B) : EncAt b B l h := by
  have hz : b < A.heap.size := cell_lt x.c0
  exact ⟨e.cell x.c0, e.cell x.c1, (Below.frozen (p := ⟨b, 0, none⟩) e hz).trans x.f0, (Below.frozen (p := ⟨b, 1, none⟩) e hz).trans x.f1⟩
end Go.Proofs.YtdejgaiocjfhjaaGreatDoor
namespace Go.Proofs.YtdejgaiocjfhjaaGreatDoor
open Go.RowKit
end Go.Proofs.YtdejgaiocjfhjaaGreatDoor
namespace Go.Proofs.YtdejgaiocjfhjaaGreatDoor
open Go.RowKit
theorem EncAt.set0 {b : Nat} {A : World} {l h : Txt} (x : EncAt b A l h) (v : Txt) : EncAt b (A.setCell ⟨b, 0, none⟩ (txt v)) v h :=
  ⟨World.cell?_setCell_same _ _ _ x.c0, by rw [World.cell?_setCell_other _ _ _ _ (fun h => by simp only [Addr.mk.injEq] at h; omega)]; exact x.c1, by rw [World.frozen?_setCell]; exact x.f0, by rw [World.frozen?_setCell]; exact x.f1⟩
theorem EncAt.set1 {b : Nat} {A : World} {l h : Txt} (x : EncAt b A l h) (v : Txt) : EncAt b (A.setCell ⟨b, 1, none⟩ (txt v)) l v :=
  ⟨by rw [World.cell?_setCell_other _ _ _ _ (fun h => by simp only [Addr.mk.injEq] at h; omega)]; exact x.c0, World.cell?_setCell_same _ _ _ x.c1, by rw [World.frozen?_setCell]; exact x.f0, by rw [World.frozen?_setCell]; exact x.f1⟩
theorem EncAt.other {b c o : Nat} {A : World} {l h : Txt} {v : Value} (x : EncAt b A l h) (hn : b ≠ c) : EncAt b (A.setCell ⟨c, o, none⟩ v) l h :=
  ⟨by rw [World.cell?_setCell_other _ _ _ _ (fun h => by simp only [Addr.mk.injEq] at h; omega)]; exact x.c0, by rw [World.cell?_setCell_other _ _ _ _ (fun h => by simp only [Addr.mk.injEq] at h; omega)]; exact x.c1, by rw [World.frozen?_setCell]; exact x.f0, by rw [World.frozen?_setCell]; exact x.f1⟩
set_option maxHeartbeats 8000000 in
set_option maxRecDepth 100000 in
theorem eHull_any (a b : Enc) (w : World) (hG : Glob w) (hl : LenE a) (hm : LenE b) : Calls Tryz.prog 30 #[encV a, encV b] w (EncP (hullE a b) w) := by
  have HB := Lib.hid (checked_two a b w hG hl hm)
  unfold EncP
  obtain ⟨C, hC⟩ : ∃ C, C = hullE a b := ⟨_, rfl⟩
  rw [← hC]
  have hne0 : (((0 : Nat) : Int) != 0) = false := rfl
  by_cases e0 : bothEE a b = 0
  rotate_left
  · have HR : Hid (C = (([], []), bothEE a b)) := by show _ = _; rw [hC]; unfold hullE badEnc; rw [if_pos e0]
    have hne : (((bothEE a b : Nat) : Int) != 0) = true := by rw [bne_iff_ne]; omega
    clear e0 hC hl hm hG
    generalize bothEE a b = n at *
    obtain ⟨l, h⟩ := a
    obtain ⟨m, k⟩ := b
    dsimp only [encV] at HB ⊢
    have c0 : ((((w.alloc (.cells #[txt l, txt h] 24)).alloc (.cells #[txt m, txt k] 24)).alloc (.cells #[.string ⟨#[]⟩, .string ⟨#[]⟩] 24)).alloc (.cells #[txt l, txt h, txt m, txt k] 24)).cell? ⟨w.heap.size, 0, none⟩ = some (txt l) := by go_simp
    have c1 : ((((w.alloc (.cells #[txt l, txt h] 24)).alloc (.cells #[txt m, txt k] 24)).alloc (.cells #[.string ⟨#[]⟩, .string ⟨#[]⟩] 24)).alloc (.cells #[txt l, txt h, txt m, txt k] 24)).cell? ⟨w.heap.size, 1, none⟩ = some (txt h) := by go_simp
    have c2 : ((((w.alloc (.cells #[txt l, txt h] 24)).alloc (.cells #[txt m, txt k] 24)).alloc (.cells #[.string ⟨#[]⟩, .string ⟨#[]⟩] 24)).alloc (.cells #[txt l, txt h, txt m, txt k] 24)).cell? ⟨w.heap.size + 1, 0, none⟩ = some (txt m) := by go_simp
    have c3 : ((((w.alloc (.cells #[txt l, txt h] 24)).alloc (.cells #[txt m, txt k] 24)).alloc (.cells #[.string ⟨#[]⟩, .string ⟨#[]⟩] 24)).alloc (.cells #[txt l, txt h, txt m, txt k] 24)).cell? ⟨w.heap.size + 1, 1, none⟩ = some (txt k) := by go_simp
    have X : EncAt (w.heap.size + 1 + 1) ((((w.alloc (.cells #[txt l, txt h] 24)).alloc (.cells #[txt m, txt k] 24)).alloc (.cells #[.string ⟨#[]⟩, .string ⟨#[]⟩] 24)).alloc (.cells #[txt l, txt h, txt m, txt k] 24)) [] [] := ⟨by go_simp, by go_simp, by go_simp, by go_simp⟩
    have hZ : Ext w ((((w.alloc (.cells #[txt l, txt h] 24)).alloc (.cells #[txt m, txt k] 24)).alloc (.cells #[.string ⟨#[]⟩, .string ⟨#[]⟩] 24)).alloc (.cells #[txt l, txt h, txt m, txt k] 24)) := extA
    go_enter Tryz.func30, Tryz.ntmps30
    go_wp2_with (go_at_call 79; (refine (HB.out _ (((w.alloc (.cells #[txt l, txt h] 24)).alloc (.cells #[txt m, txt k] 24)).alloc (.cells #[.string ⟨#[]⟩, .string ⟨#[]⟩] 24)) _ (by simp) rfl extA).mono ?_); rintro e w3 ⟨rfl, hE3⟩; have c0 := hE3.cell c0; have c1 := hE3.cell c1; have c2 := hE3.cell c2; have c3 := hE3.cell c3; have b0 := cell_lt c0; have b1 := cell_lt c2; dsimp only at b0 b1; obtain ⟨d0, d1, g0, g1⟩ := X.ext hE3)
    refine bodyPost_ret (v := .tuple #[.agg #[txt [], txt []], .int .i64 (n : Nat)]) (by rw [results_cell_tmp1 rfl]; go_simp) rfl ?_
    exact ⟨by first | (rw [HR.out]; done) | (rw [HR.out]; rfl), extA⟩
  obtain ⟨ea, eb⟩ := bothEE_two e0
  obtain ⟨f1, f2, _⟩ := enc_right ea
  obtain ⟨f3, f4, _⟩ := enc_right eb
  have HO1 := Lib.hid (fun W (h : Ext w W) => eOrder_any b.1 a.1 W (hG.ext h) hm.1 hl.1 (bothE_zero f3 f1))
  have HO2 := Lib.hid (fun W (h : Ext w W) => eOrder_any b.2 a.2 W (hG.ext h) hm.2 hl.2 (bothE_zero f4 f2))
  have HR : Hid (C = ((if ordQ b.1 a.1 < 0 then b.1 else a.1, if 0 < ordQ b.2 a.2 then b.2 else a.2), 0)) := by show _ = _; rw [hC]; unfold hullE lowHull highHull; rw [if_neg (not_not_intro e0)]
  rw [e0] at HB
  clear e0 ea eb f1 f2 f3 f4 hl hm hG hC
  obtain ⟨l, h⟩ := a
  obtain ⟨m, k⟩ := b
  dsimp only [encV] at HB HO1 HO2 HR ⊢
  generalize ordQ m l = z1 at *
  generalize ordQ k h = z2 at *
  by_cases h1 : z1 < 0
  · rw [if_pos h1] at HR
    by_cases h2 : 0 < z2
    · rw [if_pos h2] at HR
      have c0 : ((((w.alloc (.cells #[txt l, txt h] 24)).alloc (.cells #[txt m, txt k] 24)).alloc (.cells #[.string ⟨#[]⟩, .string ⟨#[]⟩] 24)).alloc (.cells #[txt l, txt h, txt m, txt k] 24)).cell? ⟨w.heap.size, 0, none⟩ = some (txt l) := by go_simp
      have c1 : ((((w.alloc (.cells #[txt l, txt h] 24)).alloc (.cells #[txt m, txt k] 24)).alloc (.cells #[.string ⟨#[]⟩, .string ⟨#[]⟩] 24)).alloc (.cells #[txt l, txt h, txt m, txt k] 24)).cell? ⟨w.heap.size, 1, none⟩ = some (txt h) := by go_simp
      have c2 : ((((w.alloc (.cells #[txt l, txt h] 24)).alloc (.cells #[txt m, txt k] 24)).alloc (.cells #[.string ⟨#[]⟩, .string ⟨#[]⟩] 24)).alloc (.cells #[txt l, txt h, txt m, txt k] 24)).cell? ⟨w.heap.size + 1, 0, none⟩ = some (txt m) := by go_simp
      have c3 : ((((w.alloc (.cells #[txt l, txt h] 24)).alloc (.cells #[txt m, txt k] 24)).alloc (.cells #[.string ⟨#[]⟩, .string ⟨#[]⟩] 24)).alloc (.cells #[txt l, txt h, txt m, txt k] 24)).cell? ⟨w.heap.size + 1, 1, none⟩ = some (txt k) := by go_simp
      have X : EncAt (w.heap.size + 1 + 1) ((((w.alloc (.cells #[txt l, txt h] 24)).alloc (.cells #[txt m, txt k] 24)).alloc (.cells #[.string ⟨#[]⟩, .string ⟨#[]⟩] 24)).alloc (.cells #[txt l, txt h, txt m, txt k] 24)) [] [] := ⟨by go_simp, by go_simp, by go_simp, by go_simp⟩
      have hZ : Ext w ((((w.alloc (.cells #[txt l, txt h] 24)).alloc (.cells #[txt m, txt k] 24)).alloc (.cells #[.string ⟨#[]⟩, .string ⟨#[]⟩] 24)).alloc (.cells #[txt l, txt h, txt m, txt k] 24)) := extA
      have P : EncAt w.heap.size ((((w.alloc (.cells #[txt l, txt h] 24)).alloc (.cells #[txt m, txt k] 24)).alloc (.cells #[.string ⟨#[]⟩, .string ⟨#[]⟩] 24)).alloc (.cells #[txt l, txt h, txt m, txt k] 24)) l h := ⟨c0, c1, by go_simp, by go_simp⟩
      have Q : EncAt (w.heap.size + 1) ((((w.alloc (.cells #[txt l, txt h] 24)).alloc (.cells #[txt m, txt k] 24)).alloc (.cells #[.string ⟨#[]⟩, .string ⟨#[]⟩] 24)).alloc (.cells #[txt l, txt h, txt m, txt k] 24)) m k := ⟨c2, c3, by go_simp, by go_simp⟩
      go_enter Tryz.func30, Tryz.ntmps30
      go_wp2_with (go_at_call 79; (refine (HB.out _ (((w.alloc (.cells #[txt l, txt h] 24)).alloc (.cells #[txt m, txt k] 24)).alloc (.cells #[.string ⟨#[]⟩, .string ⟨#[]⟩] 24)) _ (by simp) rfl extA).mono ?_); rintro e w3 ⟨rfl, hE3⟩; have c0 := hE3.cell c0; have c1 := hE3.cell c1; have c2 := hE3.cell c2; have c3 := hE3.cell c3; have b0 := cell_lt c0; have b1 := cell_lt c2; dsimp only at b0 b1)
      have hA : Ext w3 (w3.alloc (.cells #[txt l, txt h] 24)) := extA
      have Y : EncAt w3.heap.size (w3.alloc (.cells #[txt l, txt h] 24)) l h := ⟨by go_simp, by go_simp, by go_simp, by go_simp⟩
      have s3 : w.heap.size + 1 + 1 < w3.heap.size := cell_lt (X.ext hE3).c0
      have E := (hZ.trans hE3).trans hA
      replace X := (X.ext hE3).ext hA
      replace P := (P.ext hE3).ext hA
      replace Q := (Q.ext hE3).ext hA
      obtain ⟨ob, hob⟩ : ∃ ob, ob = w3.heap.size := ⟨_, rfl⟩
      have n0 : w.heap.size ≠ ob := by omega
      have n1 : w.heap.size + 1 ≠ ob := by omega
      have n2 : w.heap.size + 1 + 1 ≠ ob := by omega
      have hwb : w.heap.size ≤ ob := by omega
      rw [← hob] at Y ⊢
      generalize w3.alloc (.cells #[txt l, txt h] 24) = w4 at Y E X P Q ⊢
      clear hA hE3 hZ s3 hob b0 b1 c0 c1 c2 c3
      go_wp2_with (go_at_call 84; have hh := HO1; clear HO1; (refine (hh.out _ E).mono ?_); clear hh; rintro e w5 ⟨rfl, hE⟩; have P5 := Lib.hid ((P).ext hE); have Q5 := Lib.hid ((Q).ext hE); have X5 := Lib.hid ((X).ext hE); have Y5 := Lib.hid ((Y).ext hE); obtain ⟨c0, c1, _, _⟩ := P5.out; obtain ⟨c2, c3, _, _⟩ := Q5.out; obtain ⟨d0, d1, g0, g1⟩ := X5.out; obtain ⟨y0, y1, p0, p1⟩ := Y5.out)
      replace E := E.trans hE
      clear P Q X Y hE c0 c1 c2 c3 d0 d1 g0 g1 y0 y1 p0 p1
      have P := P5.out.other (o := 0) (v := txt m) n0
      have Q := Q5.out.other (o := 0) (v := txt m) n1
      have X := X5.out.other (o := 0) (v := txt m) n2
      have Y := Y5.out.set0 m
      replace E := E.set hwb (o := 0) (txt m)
      clear P5 Q5 X5 Y5
      go_wp2_with (go_at_call 84; have hh := HO2; clear HO2; (refine (hh.out _ E).mono ?_); clear hh; rintro e w6 ⟨rfl, hE⟩; have P5 := Lib.hid ((P).ext hE); have Q5 := Lib.hid ((Q).ext hE); have X5 := Lib.hid ((X).ext hE); have Y5 := Lib.hid ((Y).ext hE); obtain ⟨c0, c1, _, _⟩ := P5.out; obtain ⟨c2, c3, _, _⟩ := Q5.out; obtain ⟨d0, d1, g0, g1⟩ := X5.out; obtain ⟨y0, y1, p0, p1⟩ := Y5.out)
      replace E := E.trans hE
      refine bodyPost_ret (v := .tuple #[.agg #[txt m, txt k], .int .i64 0]) (by rw [results_cell_tmp1 rfl]; go_simp) rfl ?_
      exact ⟨by first | (rw [HR.out]; done) | (rw [HR.out]; rfl), extA⟩
    · rw [if_neg h2] at HR
      have c0 : ((((w.alloc (.cells #[txt l, txt h] 24)).alloc (.cells #[txt m, txt k] 24)).alloc (.cells #[.string ⟨#[]⟩, .string ⟨#[]⟩] 24)).alloc (.cells #[txt l, txt h, txt m, txt k] 24)).cell? ⟨w.heap.size, 0, none⟩ = some (txt l) := by go_simp
      have c1 : ((((w.alloc (.cells #[txt l, txt h] 24)).alloc (.cells #[txt m, txt k] 24)).alloc (.cells #[.string ⟨#[]⟩, .string ⟨#[]⟩] 24)).alloc (.cells #[txt l, txt h, txt m, txt k] 24)).cell? ⟨w.heap.size, 1, none⟩ = some (txt h) := by go_simp
      have c2 : ((((w.alloc (.cells #[txt l, txt h] 24)).alloc (.cells #[txt m, txt k] 24)).alloc (.cells #[.string ⟨#[]⟩, .string ⟨#[]⟩] 24)).alloc (.cells #[txt l, txt h, txt m, txt k] 24)).cell? ⟨w.heap.size + 1, 0, none⟩ = some (txt m) := by go_simp
      have c3 : ((((w.alloc (.cells #[txt l, txt h] 24)).alloc (.cells #[txt m, txt k] 24)).alloc (.cells #[.string ⟨#[]⟩, .string ⟨#[]⟩] 24)).alloc (.cells #[txt l, txt h, txt m, txt k] 24)).cell? ⟨w.heap.size + 1, 1, none⟩ = some (txt k) := by go_simp
      have X : EncAt (w.heap.size + 1 + 1) ((((w.alloc (.cells #[txt l, txt h] 24)).alloc (.cells #[txt m, txt k] 24)).alloc (.cells #[.string ⟨#[]⟩, .string ⟨#[]⟩] 24)).alloc (.cells #[txt l, txt h, txt m, txt k] 24)) [] [] := ⟨by go_simp, by go_simp, by go_simp, by go_simp⟩
      have hZ : Ext w ((((w.alloc (.cells #[txt l, txt h] 24)).alloc (.cells #[txt m, txt k] 24)).alloc (.cells #[.string ⟨#[]⟩, .string ⟨#[]⟩] 24)).alloc (.cells #[txt l, txt h, txt m, txt k] 24)) := extA
      have P : EncAt w.heap.size ((((w.alloc (.cells #[txt l, txt h] 24)).alloc (.cells #[txt m, txt k] 24)).alloc (.cells #[.string ⟨#[]⟩, .string ⟨#[]⟩] 24)).alloc (.cells #[txt l, txt h, txt m, txt k] 24)) l h := ⟨c0, c1, by go_simp, by go_simp⟩
      have Q : EncAt (w.heap.size + 1) ((((w.alloc (.cells #[txt l, txt h] 24)).alloc (.cells #[txt m, txt k] 24)).alloc (.cells #[.string ⟨#[]⟩, .string ⟨#[]⟩] 24)).alloc (.cells #[txt l, txt h, txt m, txt k] 24)) m k := ⟨c2, c3, by go_simp, by go_simp⟩
      go_enter Tryz.func30, Tryz.ntmps30
      go_wp2_with (go_at_call 79; (refine (HB.out _ (((w.alloc (.cells #[txt l, txt h] 24)).alloc (.cells #[txt m, txt k] 24)).alloc (.cells #[.string ⟨#[]⟩, .string ⟨#[]⟩] 24)) _ (by simp) rfl extA).mono ?_); rintro e w3 ⟨rfl, hE3⟩; have c0 := hE3.cell c0; have c1 := hE3.cell c1; have c2 := hE3.cell c2; have c3 := hE3.cell c3; have b0 := cell_lt c0; have b1 := cell_lt c2; dsimp only at b0 b1)
      have hA : Ext w3 (w3.alloc (.cells #[txt l, txt h] 24)) := extA
      have Y : EncAt w3.heap.size (w3.alloc (.cells #[txt l, txt h] 24)) l h := ⟨by go_simp, by go_simp, by go_simp, by go_simp⟩
      have s3 : w.heap.size + 1 + 1 < w3.heap.size := cell_lt (X.ext hE3).c0
      have E := (hZ.trans hE3).trans hA
      replace X := (X.ext hE3).ext hA
      replace P := (P.ext hE3).ext hA
      replace Q := (Q.ext hE3).ext hA
      obtain ⟨ob, hob⟩ : ∃ ob, ob = w3.heap.size := ⟨_, rfl⟩
      have n0 : w.heap.size ≠ ob := by omega
      have n1 : w.heap.size + 1 ≠ ob := by omega
      have n2 : w.heap.size + 1 + 1 ≠ ob := by omega
      have hwb : w.heap.size ≤ ob := by omega
      rw [← hob] at Y ⊢
      generalize w3.alloc (.cells #[txt l, txt h] 24) = w4 at Y E X P Q ⊢
      clear hA hE3 hZ s3 hob b0 b1 c0 c1 c2 c3
      go_wp2_with (go_at_call 84; have hh := HO1; clear HO1; (refine (hh.out _ E).mono ?_); clear hh; rintro e w5 ⟨rfl, hE⟩; have P5 := Lib.hid ((P).ext hE); have Q5 := Lib.hid ((Q).ext hE); have X5 := Lib.hid ((X).ext hE); have Y5 := Lib.hid ((Y).ext hE); obtain ⟨c0, c1, _, _⟩ := P5.out; obtain ⟨c2, c3, _, _⟩ := Q5.out; obtain ⟨d0, d1, g0, g1⟩ := X5.out; obtain ⟨y0, y1, p0, p1⟩ := Y5.out)
      replace E := E.trans hE
      clear P Q X Y hE c0 c1 c2 c3 d0 d1 g0 g1 y0 y1 p0 p1
      have P := P5.out.other (o := 0) (v := txt m) n0
      have Q := Q5.out.other (o := 0) (v := txt m) n1
      have X := X5.out.other (o := 0) (v := txt m) n2
      have Y := Y5.out.set0 m
      replace E := E.set hwb (o := 0) (txt m)
      clear P5 Q5 X5 Y5
      go_wp2_with (go_at_call 84; have hh := HO2; clear HO2; (refine (hh.out _ E).mono ?_); clear hh; rintro e w6 ⟨rfl, hE⟩; have P5 := Lib.hid ((P).ext hE); have Q5 := Lib.hid ((Q).ext hE); have X5 := Lib.hid ((X).ext hE); have Y5 := Lib.hid ((Y).ext hE); obtain ⟨c0, c1, _, _⟩ := P5.out; obtain ⟨c2, c3, _, _⟩ := Q5.out; obtain ⟨d0, d1, g0, g1⟩ := X5.out; obtain ⟨y0, y1, p0, p1⟩ := Y5.out)
      replace E := E.trans hE
      refine bodyPost_ret (v := .tuple #[.agg #[txt m, txt h], .int .i64 0]) (by rw [results_cell_tmp1 rfl]; go_simp) rfl ?_
      exact ⟨by first | (rw [HR.out]; done) | (rw [HR.out]; rfl), extA⟩
  · rw [if_neg h1] at HR
    by_cases h2 : 0 < z2
    · rw [if_pos h2] at HR
      have c0 : ((((w.alloc (.cells #[txt l, txt h] 24)).alloc (.cells #[txt m, txt k] 24)).alloc (.cells #[.string ⟨#[]⟩, .string ⟨#[]⟩] 24)).alloc (.cells #[txt l, txt h, txt m, txt k] 24)).cell? ⟨w.heap.size, 0, none⟩ = some (txt l) := by go_simp
      have c1 : ((((w.alloc (.cells #[txt l, txt h] 24)).alloc (.cells #[txt m, txt k] 24)).alloc (.cells #[.string ⟨#[]⟩, .string ⟨#[]⟩] 24)).alloc (.cells #[txt l, txt h, txt m, txt k] 24)).cell? ⟨w.heap.size, 1, none⟩ = some (txt h) := by go_simp
      have c2 : ((((w.alloc (.cells #[txt l, txt h] 24)).alloc (.cells #[txt m, txt k] 24)).alloc (.cells #[.string ⟨#[]⟩, .string ⟨#[]⟩] 24)).alloc (.cells #[txt l, txt h, txt m, txt k] 24)).cell? ⟨w.heap.size + 1, 0, none⟩ = some (txt m) := by go_simp
      have c3 : ((((w.alloc (.cells #[txt l, txt h] 24)).alloc (.cells #[txt m, txt k] 24)).alloc (.cells #[.string ⟨#[]⟩, .string ⟨#[]⟩] 24)).alloc (.cells #[txt l, txt h, txt m, txt k] 24)).cell? ⟨w.heap.size + 1, 1, none⟩ = some (txt k) := by go_simp
      have X : EncAt (w.heap.size + 1 + 1) ((((w.alloc (.cells #[txt l, txt h] 24)).alloc (.cells #[txt m, txt k] 24)).alloc (.cells #[.string ⟨#[]⟩, .string ⟨#[]⟩] 24)).alloc (.cells #[txt l, txt h, txt m, txt k] 24)) [] [] := ⟨by go_simp, by go_simp, by go_simp, by go_simp⟩
      have hZ : Ext w ((((w.alloc (.cells #[txt l, txt h] 24)).alloc (.cells #[txt m, txt k] 24)).alloc (.cells #[.string ⟨#[]⟩, .string ⟨#[]⟩] 24)).alloc (.cells #[txt l, txt h, txt m, txt k] 24)) := extA
      have P : EncAt w.heap.size ((((w.alloc (.cells #[txt l, txt h] 24)).alloc (.cells #[txt m, txt k] 24)).alloc (.cells #[.string ⟨#[]⟩, .string ⟨#[]⟩] 24)).alloc (.cells #[txt l, txt h, txt m, txt k] 24)) l h := ⟨c0, c1, by go_simp, by go_simp⟩
      have Q : EncAt (w.heap.size + 1) ((((w.alloc (.cells #[txt l, txt h] 24)).alloc (.cells #[txt m, txt k] 24)).alloc (.cells #[.string ⟨#[]⟩, .string ⟨#[]⟩] 24)).alloc (.cells #[txt l, txt h, txt m, txt k] 24)) m k := ⟨c2, c3, by go_simp, by go_simp⟩
      go_enter Tryz.func30, Tryz.ntmps30
      go_wp2_with (go_at_call 79; (refine (HB.out _ (((w.alloc (.cells #[txt l, txt h] 24)).alloc (.cells #[txt m, txt k] 24)).alloc (.cells #[.string ⟨#[]⟩, .string ⟨#[]⟩] 24)) _ (by simp) rfl extA).mono ?_); rintro e w3 ⟨rfl, hE3⟩; have c0 := hE3.cell c0; have c1 := hE3.cell c1; have c2 := hE3.cell c2; have c3 := hE3.cell c3; have b0 := cell_lt c0; have b1 := cell_lt c2; dsimp only at b0 b1)
      have hA : Ext w3 (w3.alloc (.cells #[txt l, txt h] 24)) := extA
      have Y : EncAt w3.heap.size (w3.alloc (.cells #[txt l, txt h] 24)) l h := ⟨by go_simp, by go_simp, by go_simp, by go_simp⟩
      have s3 : w.heap.size + 1 + 1 < w3.heap.size := cell_lt (X.ext hE3).c0
      have E := (hZ.trans hE3).trans hA
      replace X := (X.ext hE3).ext hA
      replace P := (P.ext hE3).ext hA
      replace Q := (Q.ext hE3).ext hA
      obtain ⟨ob, hob⟩ : ∃ ob, ob = w3.heap.size := ⟨_, rfl⟩
      have n0 : w.heap.size ≠ ob := by omega
      have n1 : w.heap.size + 1 ≠ ob := by omega
      have n2 : w.heap.size + 1 + 1 ≠ ob := by omega
      have hwb : w.heap.size ≤ ob := by omega
      rw [← hob] at Y ⊢
      generalize w3.alloc (.cells #[txt l, txt h] 24) = w4 at Y E X P Q ⊢
      clear hA hE3 hZ s3 hob b0 b1 c0 c1 c2 c3
      go_wp2_with (go_at_call 84; have hh := HO1; clear HO1; (refine (hh.out _ E).mono ?_); clear hh; rintro e w5 ⟨rfl, hE⟩; have P5 := Lib.hid ((P).ext hE); have Q5 := Lib.hid ((Q).ext hE); have X5 := Lib.hid ((X).ext hE); have Y5 := Lib.hid ((Y).ext hE); obtain ⟨c0, c1, _, _⟩ := P5.out; obtain ⟨c2, c3, _, _⟩ := Q5.out; obtain ⟨d0, d1, g0, g1⟩ := X5.out; obtain ⟨y0, y1, p0, p1⟩ := Y5.out)
      replace E := E.trans hE
      clear P Q X Y hE c0 c1 c2 c3 d0 d1 g0 g1 y0 y1 p0 p1
      have P := P5.out
      have Q := Q5.out
      have X := X5.out
      have Y := Y5.out
      clear P5 Q5 X5 Y5
      go_wp2_with (go_at_call 84; have hh := HO2; clear HO2; (refine (hh.out _ E).mono ?_); clear hh; rintro e w6 ⟨rfl, hE⟩; have P5 := Lib.hid ((P).ext hE); have Q5 := Lib.hid ((Q).ext hE); have X5 := Lib.hid ((X).ext hE); have Y5 := Lib.hid ((Y).ext hE); obtain ⟨c0, c1, _, _⟩ := P5.out; obtain ⟨c2, c3, _, _⟩ := Q5.out; obtain ⟨d0, d1, g0, g1⟩ := X5.out; obtain ⟨y0, y1, p0, p1⟩ := Y5.out)
      replace E := E.trans hE
      refine bodyPost_ret (v := .tuple #[.agg #[txt l, txt k], .int .i64 0]) (by rw [results_cell_tmp1 rfl]; go_simp) rfl ?_
      exact ⟨by first | (rw [HR.out]; done) | (rw [HR.out]; rfl), extA⟩
    · rw [if_neg h2] at HR
      have c0 : ((((w.alloc (.cells #[txt l, txt h] 24)).alloc (.cells #[txt m, txt k] 24)).alloc (.cells #[.string ⟨#[]⟩, .string ⟨#[]⟩] 24)).alloc (.cells #[txt l, txt h, txt m, txt k] 24)).cell? ⟨w.heap.size, 0, none⟩ = some (txt l) := by go_simp
      have c1 : ((((w.alloc (.cells #[txt l, txt h] 24)).alloc (.cells #[txt m, txt k] 24)).alloc (.cells #[.string ⟨#[]⟩, .string ⟨#[]⟩] 24)).alloc (.cells #[txt l, txt h, txt m, txt k] 24)).cell? ⟨w.heap.size, 1, none⟩ = some (txt h) := by go_simp
      have c2 : ((((w.alloc (.cells #[txt l, txt h] 24)).alloc (.cells #[txt m, txt k] 24)).alloc (.cells #[.string ⟨#[]⟩, .string ⟨#[]⟩] 24)).alloc (.cells #[txt l, txt h, txt m, txt k] 24)).cell? ⟨w.heap.size + 1, 0, none⟩ = some (txt m) := by go_simp
      have c3 : ((((w.alloc (.cells #[txt l, txt h] 24)).alloc (.cells #[txt m, txt k] 24)).alloc (.cells #[.string ⟨#[]⟩, .string ⟨#[]⟩] 24)).alloc (.cells #[txt l, txt h, txt m, txt k] 24)).cell? ⟨w.heap.size + 1, 1, none⟩ = some (txt k) := by go_simp
      have X : EncAt (w.heap.size + 1 + 1) ((((w.alloc (.cells #[txt l, txt h] 24)).alloc (.cells #[txt m, txt k] 24)).alloc (.cells #[.string ⟨#[]⟩, .string ⟨#[]⟩] 24)).alloc (.cells #[txt l, txt h, txt m, txt k] 24)) [] [] := ⟨by go_simp, by go_simp, by go_simp, by go_simp⟩
      have hZ : Ext w ((((w.alloc (.cells #[txt l, txt h] 24)).alloc (.cells #[txt m, txt k] 24)).alloc (.cells #[.string ⟨#[]⟩, .string ⟨#[]⟩] 24)).alloc (.cells #[txt l, txt h, txt m, txt k] 24)) := extA
      have P : EncAt w.heap.size ((((w.alloc (.cells #[txt l, txt h] 24)).alloc (.cells #[txt m, txt k] 24)).alloc (.cells #[.string ⟨#[]⟩, .string ⟨#[]⟩] 24)).alloc (.cells #[txt l, txt h, txt m, txt k] 24)) l h := ⟨c0, c1, by go_simp, by go_simp⟩
      have Q : EncAt (w.heap.size + 1) ((((w.alloc (.cells #[txt l, txt h] 24)).alloc (.cells #[txt m, txt k] 24)).alloc (.cells #[.string ⟨#[]⟩, .string ⟨#[]⟩] 24)).alloc (.cells #[txt l, txt h, txt m, txt k] 24)) m k := ⟨c2, c3, by go_simp, by go_simp⟩
      go_enter Tryz.func30, Tryz.ntmps30
      go_wp2_with (go_at_call 79; (refine (HB.out _ (((w.alloc (.cells #[txt l, txt h] 24)).alloc (.cells #[txt m, txt k] 24)).alloc (.cells #[.string ⟨#[]⟩, .string ⟨#[]⟩] 24)) _ (by simp) rfl extA).mono ?_); rintro e w3 ⟨rfl, hE3⟩; have c0 := hE3.cell c0; have c1 := hE3.cell c1; have c2 := hE3.cell c2; have c3 := hE3.cell c3; have b0 := cell_lt c0; have b1 := cell_lt c2; dsimp only at b0 b1)
      have hA : Ext w3 (w3.alloc (.cells #[txt l, txt h] 24)) := extA
      have Y : EncAt w3.heap.size (w3.alloc (.cells #[txt l, txt h] 24)) l h := ⟨by go_simp, by go_simp, by go_simp, by go_simp⟩
      have s3 : w.heap.size + 1 + 1 < w3.heap.size := cell_lt (X.ext hE3).c0
      have E := (hZ.trans hE3).trans hA
      replace X := (X.ext hE3).ext hA
      replace P := (P.ext hE3).ext hA
      replace Q := (Q.ext hE3).ext hA
      obtain ⟨ob, hob⟩ : ∃ ob, ob = w3.heap.size := ⟨_, rfl⟩
      have n0 : w.heap.size ≠ ob := by omega
      have n1 : w.heap.size + 1 ≠ ob := by omega
      have n2 : w.heap.size + 1 + 1 ≠ ob := by omega
      have hwb : w.heap.size ≤ ob := by omega
      rw [← hob] at Y ⊢
      generalize w3.alloc (.cells #[txt l, txt h] 24) = w4 at Y E X P Q ⊢
      clear hA hE3 hZ s3 hob b0 b1 c0 c1 c2 c3
      go_wp2_with (go_at_call 84; have hh := HO1; clear HO1; (refine (hh.out _ E).mono ?_); clear hh; rintro e w5 ⟨rfl, hE⟩; have P5 := Lib.hid ((P).ext hE); have Q5 := Lib.hid ((Q).ext hE); have X5 := Lib.hid ((X).ext hE); have Y5 := Lib.hid ((Y).ext hE); obtain ⟨c0, c1, _, _⟩ := P5.out; obtain ⟨c2, c3, _, _⟩ := Q5.out; obtain ⟨d0, d1, g0, g1⟩ := X5.out; obtain ⟨y0, y1, p0, p1⟩ := Y5.out)
      replace E := E.trans hE
      clear P Q X Y hE c0 c1 c2 c3 d0 d1 g0 g1 y0 y1 p0 p1
      have P := P5.out
      have Q := Q5.out
      have X := X5.out
      have Y := Y5.out
      clear P5 Q5 X5 Y5
      go_wp2_with (go_at_call 84; have hh := HO2; clear HO2; (refine (hh.out _ E).mono ?_); clear hh; rintro e w6 ⟨rfl, hE⟩; have P5 := Lib.hid ((P).ext hE); have Q5 := Lib.hid ((Q).ext hE); have X5 := Lib.hid ((X).ext hE); have Y5 := Lib.hid ((Y).ext hE); obtain ⟨c0, c1, _, _⟩ := P5.out; obtain ⟨c2, c3, _, _⟩ := Q5.out; obtain ⟨d0, d1, g0, g1⟩ := X5.out; obtain ⟨y0, y1, p0, p1⟩ := Y5.out)
      replace E := E.trans hE
      refine bodyPost_ret (v := .tuple #[.agg #[txt l, txt h], .int .i64 0]) (by rw [results_cell_tmp1 rfl]; go_simp) rfl ?_
      exact ⟨by first | (rw [HR.out]; done) | (rw [HR.out]; rfl), extA⟩
end Go.Proofs.YtdejgaiocjfhjaaGreatDoor
namespace Go.Proofs.YtdejgaiocjfhjaaGreatDoor
open Go.RowKit
structure FourV (g : Nat) (W : World) (l : List Txt) (E : Nat) (a : Option Addr) (cap : Nat) : Prop where
  c0 : W.cell? ⟨g, 0, none⟩ = some (.slice a l.length cap)
  c1 : W.cell? ⟨g, 1, none⟩ = some (.int .i64 (E : Nat))
  cs : CellsT W a l
theorem FourV.ext {g : Nat} {A B : World} {l : List Txt} {E : Nat} {a : Option Addr} {cap : Nat} (x : FourV g A l E a cap) (e : Ext A B) : FourV g B l E a cap := ⟨e.cell x.c0, e.cell x.c1, x.cs.ext e⟩
end Go.Proofs.YtdejgaiocjfhjaaGreatDoor
namespace Go.Proofs.YtdejgaiocjfhjaaGreatDoor
open Go.RowKit
theorem results_cell_tmp_tmp {fn : Func} {p u v : Tmp} {ty : TypeId} (h : fn.results = #[.cell p ty, .tmp u, .tmp v]) (tmps : Array Value) (P : Program) (w : World) :
    (results fn tmps).run P w = ((asAddr (tmps.getD p undef)).run P w).andThen fun a w₁ => ((loadVar ty a).run P w₁).andThen fun x w₂ => .ok (.tuple #[x, tmps.getD u undef, tmps.getD v undef]) w₂ := by
  simp only [results, h]
  simp [Sem.run_bind, Result.andThen]
def MeetP (r : Enc × Bool × Nat) (w : World) (e : Ending) (w' : World) : Prop := e = .returned (.tuple #[encV r.1, .bool r.2.1, .int .i64 (r.2.2 : Nat)]) ∧ Ext w w'
set_option maxHeartbeats 16000000 in
set_option maxRecDepth 100000 in
theorem eMeet_any (a b : Enc) (w : World) (hG : Glob w) (hl : LenE a) (hm : LenE b) : Calls Tryz.prog 28 #[encV a, encV b] w (MeetP (meetE a b) w) := by
  have HB := Lib.hid (checked_two a b w hG hl hm)
  unfold MeetP
  obtain ⟨C, hC⟩ : ∃ C, C = meetE a b := ⟨_, rfl⟩
  rw [← hC]
  have hne0 : (((0 : Nat) : Int) != 0) = false := rfl
  by_cases e0 : bothEE a b = 0
  rotate_left
  · have HR : Hid (C = (([], []), false, bothEE a b)) := by show _ = _; rw [hC]; unfold meetE; rw [if_pos e0]
    have hne : (((bothEE a b : Nat) : Int) != 0) = true := by rw [bne_iff_ne]; omega
    clear e0 hC hl hm hG
    generalize bothEE a b = n at *
    obtain ⟨l, h⟩ := a
    obtain ⟨m, k⟩ := b
    dsimp only [encV] at HB ⊢
    have c0 : ((((w.alloc (.cells #[txt l, txt h] 24)).alloc (.cells #[txt m, txt k] 24)).alloc (.cells #[.string ⟨#[]⟩, .string ⟨#[]⟩] 24)).alloc (.cells #[txt l, txt h, txt m, txt k] 24)).cell? ⟨w.heap.size, 0, none⟩ = some (txt l) := by go_simp
    have c1 : ((((w.alloc (.cells #[txt l, txt h] 24)).alloc (.cells #[txt m, txt k] 24)).alloc (.cells #[.string ⟨#[]⟩, .string ⟨#[]⟩] 24)).alloc (.cells #[txt l, txt h, txt m, txt k] 24)).cell? ⟨w.heap.size, 1, none⟩ = some (txt h) := by go_simp
    have c2 : ((((w.alloc (.cells #[txt l, txt h] 24)).alloc (.cells #[txt m, txt k] 24)).alloc (.cells #[.string ⟨#[]⟩, .string ⟨#[]⟩] 24)).alloc (.cells #[txt l, txt h, txt m, txt k] 24)).cell? ⟨w.heap.size + 1, 0, none⟩ = some (txt m) := by go_simp
    have c3 : ((((w.alloc (.cells #[txt l, txt h] 24)).alloc (.cells #[txt m, txt k] 24)).alloc (.cells #[.string ⟨#[]⟩, .string ⟨#[]⟩] 24)).alloc (.cells #[txt l, txt h, txt m, txt k] 24)).cell? ⟨w.heap.size + 1, 1, none⟩ = some (txt k) := by go_simp
    have X : EncAt (w.heap.size + 1 + 1) ((((w.alloc (.cells #[txt l, txt h] 24)).alloc (.cells #[txt m, txt k] 24)).alloc (.cells #[.string ⟨#[]⟩, .string ⟨#[]⟩] 24)).alloc (.cells #[txt l, txt h, txt m, txt k] 24)) [] [] := ⟨by go_simp, by go_simp, by go_simp, by go_simp⟩
    have hZ : Ext w ((((w.alloc (.cells #[txt l, txt h] 24)).alloc (.cells #[txt m, txt k] 24)).alloc (.cells #[.string ⟨#[]⟩, .string ⟨#[]⟩] 24)).alloc (.cells #[txt l, txt h, txt m, txt k] 24)) := extA
    go_enter Tryz.func28, Tryz.ntmps28
    go_wp2_with (go_at_call 79; (refine (HB.out _ (((w.alloc (.cells #[txt l, txt h] 24)).alloc (.cells #[txt m, txt k] 24)).alloc (.cells #[.string ⟨#[]⟩, .string ⟨#[]⟩] 24)) _ (by simp) rfl extA).mono ?_); rintro e w3 ⟨rfl, hE3⟩; have c0 := hE3.cell c0; have c1 := hE3.cell c1; have c2 := hE3.cell c2; have c3 := hE3.cell c3; have b0 := cell_lt c0; have b1 := cell_lt c2; dsimp only at b0 b1; obtain ⟨d0, d1, g0, g1⟩ := X.ext hE3)
    refine bodyPost_ret (v := .tuple #[.agg #[txt [], txt []], .bool false, .int .i64 (n : Nat)]) (by rw [results_cell_tmp_tmp rfl]; go_simp) rfl ?_
    exact ⟨by first | (rw [HR.out]; done) | (rw [HR.out]; rfl), extA⟩
  obtain ⟨ea, eb⟩ := bothEE_two e0
  obtain ⟨f1, f2, _⟩ := enc_right ea
  obtain ⟨f3, f4, _⟩ := enc_right eb
  have HO1 := Lib.hid (fun W (h : Ext w W) => eOrder_any b.1 a.1 W (hG.ext h) hm.1 hl.1 (bothE_zero f3 f1))
  have HO2 := Lib.hid (fun W (h : Ext w W) => eOrder_any b.2 a.2 W (hG.ext h) hm.2 hl.2 (bothE_zero f4 f2))
  have HO3 : Hid (∀ x y, (x = a.1 ∨ x = b.1) → (y = a.2 ∨ y = b.2) → ∀ W, Ext w W → Calls Tryz.prog 84 #[txt x, txt y] W fun e w' => e = .returned (.int .i64 (ordQ x y)) ∧ Ext W w') := fun x y hx hy W h => by
    refine eOrder_any x y W (hG.ext h) ?_ ?_ ?_
    · rcases hx with rfl | rfl
      · exact hl.1
      · exact hm.1
    · rcases hy with rfl | rfl
      · exact hl.2
      · exact hm.2
    · rcases hx with rfl | rfl <;> rcases hy with rfl | rfl
      · exact bothE_zero f1 f2
      · exact bothE_zero f1 f4
      · exact bothE_zero f3 f2
      · exact bothE_zero f3 f4
  have HR : Hid (∀ x y, x = (if 0 < ordQ b.1 a.1 then b.1 else a.1) → y = (if ordQ b.2 a.2 < 0 then b.2 else a.2) → C = if 0 < ordQ x y then (([], []), false, 0) else ((x, y), true, 0)) := fun x y hx hy => by
    have e1 : lowMeet a b = x := hx.symm
    have e2 : highMeet a b = y := hy.symm
    rw [hC]
    unfold meetE commonE
    rw [if_neg (not_not_intro e0), e1, e2]
    split <;> rfl
  rw [e0] at HB
  clear e0 ea eb f1 f2 f3 f4 hl hm hG hC
  obtain ⟨l, h⟩ := a
  obtain ⟨m, k⟩ := b
  dsimp only [encV] at HB HO1 HO2 HO3 HR ⊢
  generalize ordQ m l = z1 at *
  generalize ordQ k h = z2 at *
  by_cases h1 : 0 < z1
  · have HR1 := HR
    by_cases h2 : z2 < 0
    · have HRX : Hid (C = if 0 < ordQ m k then (([], []), false, 0) else ((m, k), true, 0)) := HR1.out m k (by rw [if_pos h1]) (by rw [if_pos h2])
      have HO4 := Lib.hid (HO3.out m k (.inr rfl) (.inr rfl))
      clear HR1 HR HO3
      generalize ordQ m k = z3 at HRX HO4
      by_cases h3 : 0 < z3
      · rw [if_pos h3] at HRX
        have c0 : ((((w.alloc (.cells #[txt l, txt h] 24)).alloc (.cells #[txt m, txt k] 24)).alloc (.cells #[.string ⟨#[]⟩, .string ⟨#[]⟩] 24)).alloc (.cells #[txt l, txt h, txt m, txt k] 24)).cell? ⟨w.heap.size, 0, none⟩ = some (txt l) := by go_simp
        have c1 : ((((w.alloc (.cells #[txt l, txt h] 24)).alloc (.cells #[txt m, txt k] 24)).alloc (.cells #[.string ⟨#[]⟩, .string ⟨#[]⟩] 24)).alloc (.cells #[txt l, txt h, txt m, txt k] 24)).cell? ⟨w.heap.size, 1, none⟩ = some (txt h) := by go_simp
        have c2 : ((((w.alloc (.cells #[txt l, txt h] 24)).alloc (.cells #[txt m, txt k] 24)).alloc (.cells #[.string ⟨#[]⟩, .string ⟨#[]⟩] 24)).alloc (.cells #[txt l, txt h, txt m, txt k] 24)).cell? ⟨w.heap.size + 1, 0, none⟩ = some (txt m) := by go_simp
        have c3 : ((((w.alloc (.cells #[txt l, txt h] 24)).alloc (.cells #[txt m, txt k] 24)).alloc (.cells #[.string ⟨#[]⟩, .string ⟨#[]⟩] 24)).alloc (.cells #[txt l, txt h, txt m, txt k] 24)).cell? ⟨w.heap.size + 1, 1, none⟩ = some (txt k) := by go_simp
        have X : EncAt (w.heap.size + 1 + 1) ((((w.alloc (.cells #[txt l, txt h] 24)).alloc (.cells #[txt m, txt k] 24)).alloc (.cells #[.string ⟨#[]⟩, .string ⟨#[]⟩] 24)).alloc (.cells #[txt l, txt h, txt m, txt k] 24)) [] [] := ⟨by go_simp, by go_simp, by go_simp, by go_simp⟩
        have hZ : Ext w ((((w.alloc (.cells #[txt l, txt h] 24)).alloc (.cells #[txt m, txt k] 24)).alloc (.cells #[.string ⟨#[]⟩, .string ⟨#[]⟩] 24)).alloc (.cells #[txt l, txt h, txt m, txt k] 24)) := extA
        have P : EncAt w.heap.size ((((w.alloc (.cells #[txt l, txt h] 24)).alloc (.cells #[txt m, txt k] 24)).alloc (.cells #[.string ⟨#[]⟩, .string ⟨#[]⟩] 24)).alloc (.cells #[txt l, txt h, txt m, txt k] 24)) l h := ⟨c0, c1, by go_simp, by go_simp⟩
        have Q : EncAt (w.heap.size + 1) ((((w.alloc (.cells #[txt l, txt h] 24)).alloc (.cells #[txt m, txt k] 24)).alloc (.cells #[.string ⟨#[]⟩, .string ⟨#[]⟩] 24)).alloc (.cells #[txt l, txt h, txt m, txt k] 24)) m k := ⟨c2, c3, by go_simp, by go_simp⟩
        go_enter Tryz.func28, Tryz.ntmps28
        go_wp2_with (go_at_call 79; (refine (HB.out _ (((w.alloc (.cells #[txt l, txt h] 24)).alloc (.cells #[txt m, txt k] 24)).alloc (.cells #[.string ⟨#[]⟩, .string ⟨#[]⟩] 24)) _ (by simp) rfl extA).mono ?_); rintro e w3 ⟨rfl, hE3⟩; have c0 := hE3.cell c0; have c1 := hE3.cell c1; have c2 := hE3.cell c2; have c3 := hE3.cell c3; have b0 := cell_lt c0; have b1 := cell_lt c2; dsimp only at b0 b1)
        have hA : Ext w3 (w3.alloc (.cells #[txt l, txt h] 24)) := extA
        have Y : EncAt w3.heap.size (w3.alloc (.cells #[txt l, txt h] 24)) l h := ⟨by go_simp, by go_simp, by go_simp, by go_simp⟩
        have s3 : w.heap.size + 1 + 1 < w3.heap.size := cell_lt (X.ext hE3).c0
        have E := (hZ.trans hE3).trans hA
        replace X := (X.ext hE3).ext hA
        replace P := (P.ext hE3).ext hA
        replace Q := (Q.ext hE3).ext hA
        obtain ⟨ob, hob⟩ : ∃ ob, ob = w3.heap.size := ⟨_, rfl⟩
        have n0 : w.heap.size ≠ ob := by omega
        have n1 : w.heap.size + 1 ≠ ob := by omega
        have n2 : w.heap.size + 1 + 1 ≠ ob := by omega
        have hwb : w.heap.size ≤ ob := by omega
        rw [← hob] at Y ⊢
        generalize w3.alloc (.cells #[txt l, txt h] 24) = w4 at Y E X P Q ⊢
        clear hA hE3 hZ s3 hob b0 b1 c0 c1 c2 c3
        go_wp2_with (go_at_call 84; have hh := HO1; clear HO1; (refine (hh.out _ E).mono ?_); clear hh; rintro e w5 ⟨rfl, hE⟩; have P5 := Lib.hid ((P).ext hE); have Q5 := Lib.hid ((Q).ext hE); have X5 := Lib.hid ((X).ext hE); have Y5 := Lib.hid ((Y).ext hE); obtain ⟨c0, c1, _, _⟩ := P5.out; obtain ⟨c2, c3, _, _⟩ := Q5.out; obtain ⟨d0, d1, g0, g1⟩ := X5.out; obtain ⟨y0, y1, p0, p1⟩ := Y5.out)
        replace E := E.trans hE
        clear P Q X Y hE c0 c1 c2 c3 d0 d1 g0 g1 y0 y1 p0 p1
        have P := P5.out.other (o := 0) (v := txt m) n0
        have Q := Q5.out.other (o := 0) (v := txt m) n1
        have X := X5.out.other (o := 0) (v := txt m) n2
        have Y := Y5.out.set0 m
        replace E := E.set hwb (o := 0) (txt m)
        clear P5 Q5 X5 Y5
        go_wp2_with (go_at_call 84; have hh := HO2; clear HO2; (refine (hh.out _ E).mono ?_); clear hh; rintro e w6 ⟨rfl, hE⟩; have P5 := Lib.hid ((P).ext hE); have Q5 := Lib.hid ((Q).ext hE); have X5 := Lib.hid ((X).ext hE); have Y5 := Lib.hid ((Y).ext hE); obtain ⟨c0, c1, _, _⟩ := P5.out; obtain ⟨c2, c3, _, _⟩ := Q5.out; obtain ⟨d0, d1, g0, g1⟩ := X5.out; obtain ⟨y0, y1, p0, p1⟩ := Y5.out)
        replace E := E.trans hE
        clear P Q X Y hE c0 c1 c2 c3 d0 d1 g0 g1 y0 y1 p0 p1
        have P := P5.out.other (o := 1) (v := txt k) n0
        have Q := Q5.out.other (o := 1) (v := txt k) n1
        have X := X5.out.other (o := 1) (v := txt k) n2
        have Y := Y5.out.set1 k
        replace E := E.set hwb (o := 1) (txt k)
        clear P5 Q5 X5 Y5
        go_wp2_with (go_at_call 84; (refine (HO4.out _ E).mono ?_); rintro e w7 ⟨rfl, hE⟩; have P5 := Lib.hid ((P).ext hE); have Q5 := Lib.hid ((Q).ext hE); have X5 := Lib.hid ((X).ext hE); have Y5 := Lib.hid ((Y).ext hE); obtain ⟨c0, c1, _, _⟩ := P5.out; obtain ⟨c2, c3, _, _⟩ := Q5.out; obtain ⟨d0, d1, g0, g1⟩ := X5.out; obtain ⟨y0, y1, p0, p1⟩ := Y5.out)
        replace E := E.trans hE
        refine bodyPost_ret (v := .tuple #[.agg #[txt [], txt []], .bool false, .int .i64 0]) (by rw [results_cell_tmp_tmp rfl]; go_simp) rfl ?_
        exact ⟨by first | (rw [HRX.out]; done) | (rw [HRX.out]; rfl), extA⟩
      · rw [if_neg h3] at HRX
        have c0 : ((((w.alloc (.cells #[txt l, txt h] 24)).alloc (.cells #[txt m, txt k] 24)).alloc (.cells #[.string ⟨#[]⟩, .string ⟨#[]⟩] 24)).alloc (.cells #[txt l, txt h, txt m, txt k] 24)).cell? ⟨w.heap.size, 0, none⟩ = some (txt l) := by go_simp
        have c1 : ((((w.alloc (.cells #[txt l, txt h] 24)).alloc (.cells #[txt m, txt k] 24)).alloc (.cells #[.string ⟨#[]⟩, .string ⟨#[]⟩] 24)).alloc (.cells #[txt l, txt h, txt m, txt k] 24)).cell? ⟨w.heap.size, 1, none⟩ = some (txt h) := by go_simp
        have c2 : ((((w.alloc (.cells #[txt l, txt h] 24)).alloc (.cells #[txt m, txt k] 24)).alloc (.cells #[.string ⟨#[]⟩, .string ⟨#[]⟩] 24)).alloc (.cells #[txt l, txt h, txt m, txt k] 24)).cell? ⟨w.heap.size + 1, 0, none⟩ = some (txt m) := by go_simp
        have c3 : ((((w.alloc (.cells #[txt l, txt h] 24)).alloc (.cells #[txt m, txt k] 24)).alloc (.cells #[.string ⟨#[]⟩, .string ⟨#[]⟩] 24)).alloc (.cells #[txt l, txt h, txt m, txt k] 24)).cell? ⟨w.heap.size + 1, 1, none⟩ = some (txt k) := by go_simp
        have X : EncAt (w.heap.size + 1 + 1) ((((w.alloc (.cells #[txt l, txt h] 24)).alloc (.cells #[txt m, txt k] 24)).alloc (.cells #[.string ⟨#[]⟩, .string ⟨#[]⟩] 24)).alloc (.cells #[txt l, txt h, txt m, txt k] 24)) [] [] := ⟨by go_simp, by go_simp, by go_simp, by go_simp⟩
        have hZ : Ext w ((((w.alloc (.cells #[txt l, txt h] 24)).alloc (.cells #[txt m, txt k] 24)).alloc (.cells #[.string ⟨#[]⟩, .string ⟨#[]⟩] 24)).alloc (.cells #[txt l, txt h, txt m, txt k] 24)) := extA
        have P : EncAt w.heap.size ((((w.alloc (.cells #[txt l, txt h] 24)).alloc (.cells #[txt m, txt k] 24)).alloc (.cells #[.string ⟨#[]⟩, .string ⟨#[]⟩] 24)).alloc (.cells #[txt l, txt h, txt m, txt k] 24)) l h := ⟨c0, c1, by go_simp, by go_simp⟩
        have Q : EncAt (w.heap.size + 1) ((((w.alloc (.cells #[txt l, txt h] 24)).alloc (.cells #[txt m, txt k] 24)).alloc (.cells #[.string ⟨#[]⟩, .string ⟨#[]⟩] 24)).alloc (.cells #[txt l, txt h, txt m, txt k] 24)) m k := ⟨c2, c3, by go_simp, by go_simp⟩
        go_enter Tryz.func28, Tryz.ntmps28
        go_wp2_with (go_at_call 79; (refine (HB.out _ (((w.alloc (.cells #[txt l, txt h] 24)).alloc (.cells #[txt m, txt k] 24)).alloc (.cells #[.string ⟨#[]⟩, .string ⟨#[]⟩] 24)) _ (by simp) rfl extA).mono ?_); rintro e w3 ⟨rfl, hE3⟩; have c0 := hE3.cell c0; have c1 := hE3.cell c1; have c2 := hE3.cell c2; have c3 := hE3.cell c3; have b0 := cell_lt c0; have b1 := cell_lt c2; dsimp only at b0 b1)
        have hA : Ext w3 (w3.alloc (.cells #[txt l, txt h] 24)) := extA
        have Y : EncAt w3.heap.size (w3.alloc (.cells #[txt l, txt h] 24)) l h := ⟨by go_simp, by go_simp, by go_simp, by go_simp⟩
        have s3 : w.heap.size + 1 + 1 < w3.heap.size := cell_lt (X.ext hE3).c0
        have E := (hZ.trans hE3).trans hA
        replace X := (X.ext hE3).ext hA
        replace P := (P.ext hE3).ext hA
        replace Q := (Q.ext hE3).ext hA
        obtain ⟨ob, hob⟩ : ∃ ob, ob = w3.heap.size := ⟨_, rfl⟩
        have n0 : w.heap.size ≠ ob := by omega
        have n1 : w.heap.size + 1 ≠ ob := by omega
        have n2 : w.heap.size + 1 + 1 ≠ ob := by omega
        have hwb : w.heap.size ≤ ob := by omega
        rw [← hob] at Y ⊢
        generalize w3.alloc (.cells #[txt l, txt h] 24) = w4 at Y E X P Q ⊢
        clear hA hE3 hZ s3 hob b0 b1 c0 c1 c2 c3
        go_wp2_with (go_at_call 84; have hh := HO1; clear HO1; (refine (hh.out _ E).mono ?_); clear hh; rintro e w5 ⟨rfl, hE⟩; have P5 := Lib.hid ((P).ext hE); have Q5 := Lib.hid ((Q).ext hE); have X5 := Lib.hid ((X).ext hE); have Y5 := Lib.hid ((Y).ext hE); obtain ⟨c0, c1, _, _⟩ := P5.out; obtain ⟨c2, c3, _, _⟩ := Q5.out; obtain ⟨d0, d1, g0, g1⟩ := X5.out; obtain ⟨y0, y1, p0, p1⟩ := Y5.out)
        replace E := E.trans hE
        clear P Q X Y hE c0 c1 c2 c3 d0 d1 g0 g1 y0 y1 p0 p1
        have P := P5.out.other (o := 0) (v := txt m) n0
        have Q := Q5.out.other (o := 0) (v := txt m) n1
        have X := X5.out.other (o := 0) (v := txt m) n2
        have Y := Y5.out.set0 m
        replace E := E.set hwb (o := 0) (txt m)
        clear P5 Q5 X5 Y5
        go_wp2_with (go_at_call 84; have hh := HO2; clear HO2; (refine (hh.out _ E).mono ?_); clear hh; rintro e w6 ⟨rfl, hE⟩; have P5 := Lib.hid ((P).ext hE); have Q5 := Lib.hid ((Q).ext hE); have X5 := Lib.hid ((X).ext hE); have Y5 := Lib.hid ((Y).ext hE); obtain ⟨c0, c1, _, _⟩ := P5.out; obtain ⟨c2, c3, _, _⟩ := Q5.out; obtain ⟨d0, d1, g0, g1⟩ := X5.out; obtain ⟨y0, y1, p0, p1⟩ := Y5.out)
        replace E := E.trans hE
        clear P Q X Y hE c0 c1 c2 c3 d0 d1 g0 g1 y0 y1 p0 p1
        have P := P5.out.other (o := 1) (v := txt k) n0
        have Q := Q5.out.other (o := 1) (v := txt k) n1
        have X := X5.out.other (o := 1) (v := txt k) n2
        have Y := Y5.out.set1 k
        replace E := E.set hwb (o := 1) (txt k)
        clear P5 Q5 X5 Y5
        go_wp2_with (go_at_call 84; (refine (HO4.out _ E).mono ?_); rintro e w7 ⟨rfl, hE⟩; have P5 := Lib.hid ((P).ext hE); have Q5 := Lib.hid ((Q).ext hE); have X5 := Lib.hid ((X).ext hE); have Y5 := Lib.hid ((Y).ext hE); obtain ⟨c0, c1, _, _⟩ := P5.out; obtain ⟨c2, c3, _, _⟩ := Q5.out; obtain ⟨d0, d1, g0, g1⟩ := X5.out; obtain ⟨y0, y1, p0, p1⟩ := Y5.out)
        replace E := E.trans hE
        refine bodyPost_ret (v := .tuple #[.agg #[txt m, txt k], .bool true, .int .i64 0]) (by rw [results_cell_tmp_tmp rfl]; go_simp) rfl ?_
        exact ⟨by first | (rw [HRX.out]; done) | (rw [HRX.out]; rfl), extA⟩
    · have HRX : Hid (C = if 0 < ordQ m h then (([], []), false, 0) else ((m, h), true, 0)) := HR1.out m h (by rw [if_pos h1]) (by rw [if_neg h2])
      have HO4 := Lib.hid (HO3.out m h (.inr rfl) (.inl rfl))
      clear HR1 HR HO3
      generalize ordQ m h = z3 at HRX HO4
      by_cases h3 : 0 < z3
      · rw [if_pos h3] at HRX
        have c0 : ((((w.alloc (.cells #[txt l, txt h] 24)).alloc (.cells #[txt m, txt k] 24)).alloc (.cells #[.string ⟨#[]⟩, .string ⟨#[]⟩] 24)).alloc (.cells #[txt l, txt h, txt m, txt k] 24)).cell? ⟨w.heap.size, 0, none⟩ = some (txt l) := by go_simp
        have c1 : ((((w.alloc (.cells #[txt l, txt h] 24)).alloc (.cells #[txt m, txt k] 24)).alloc (.cells #[.string ⟨#[]⟩, .string ⟨#[]⟩] 24)).alloc (.cells #[txt l, txt h, txt m, txt k] 24)).cell? ⟨w.heap.size, 1, none⟩ = some (txt h) := by go_simp
        have c2 : ((((w.alloc (.cells #[txt l, txt h] 24)).alloc (.cells #[txt m, txt k] 24)).alloc (.cells #[.string ⟨#[]⟩, .string ⟨#[]⟩] 24)).alloc (.cells #[txt l, txt h, txt m, txt k] 24)).cell? ⟨w.heap.size + 1, 0, none⟩ = some (txt m) := by go_simp
        have c3 : ((((w.alloc (.cells #[txt l, txt h] 24)).alloc (.cells #[txt m, txt k] 24)).alloc (.cells #[.string ⟨#[]⟩, .string ⟨#[]⟩] 24)).alloc (.cells #[txt l, txt h, txt m, txt k] 24)).cell? ⟨w.heap.size + 1, 1, none⟩ = some (txt k) := by go_simp
        have X : EncAt (w.heap.size + 1 + 1) ((((w.alloc (.cells #[txt l, txt h] 24)).alloc (.cells #[txt m, txt k] 24)).alloc (.cells #[.string ⟨#[]⟩, .string ⟨#[]⟩] 24)).alloc (.cells #[txt l, txt h, txt m, txt k] 24)) [] [] := ⟨by go_simp, by go_simp, by go_simp, by go_simp⟩
        have hZ : Ext w ((((w.alloc (.cells #[txt l, txt h] 24)).alloc (.cells #[txt m, txt k] 24)).alloc (.cells #[.string ⟨#[]⟩, .string ⟨#[]⟩] 24)).alloc (.cells #[txt l, txt h, txt m, txt k] 24)) := extA
        have P : EncAt w.heap.size ((((w.alloc (.cells #[txt l, txt h] 24)).alloc (.cells #[txt m, txt k] 24)).alloc (.cells #[.string ⟨#[]⟩, .string ⟨#[]⟩] 24)).alloc (.cells #[txt l, txt h, txt m, txt k] 24)) l h := ⟨c0, c1, by go_simp, by go_simp⟩
        have Q : EncAt (w.heap.size + 1) ((((w.alloc (.cells #[txt l, txt h] 24)).alloc (.cells #[txt m, txt k] 24)).alloc (.cells #[.string ⟨#[]⟩, .string ⟨#[]⟩] 24)).alloc (.cells #[txt l, txt h, txt m, txt k] 24)) m k := ⟨c2, c3, by go_simp, by go_simp⟩
        go_enter Tryz.func28, Tryz.ntmps28
        go_wp2_with (go_at_call 79; (refine (HB.out _ (((w.alloc (.cells #[txt l, txt h] 24)).alloc (.cells #[txt m, txt k] 24)).alloc (.cells #[.string ⟨#[]⟩, .string ⟨#[]⟩] 24)) _ (by simp) rfl extA).mono ?_); rintro e w3 ⟨rfl, hE3⟩; have c0 := hE3.cell c0; have c1 := hE3.cell c1; have c2 := hE3.cell c2; have c3 := hE3.cell c3; have b0 := cell_lt c0; have b1 := cell_lt c2; dsimp only at b0 b1)
        have hA : Ext w3 (w3.alloc (.cells #[txt l, txt h] 24)) := extA
        have Y : EncAt w3.heap.size (w3.alloc (.cells #[txt l, txt h] 24)) l h := ⟨by go_simp, by go_simp, by go_simp, by go_simp⟩
        have s3 : w.heap.size + 1 + 1 < w3.heap.size := cell_lt (X.ext hE3).c0
        have E := (hZ.trans hE3).trans hA
        replace X := (X.ext hE3).ext hA
        replace P := (P.ext hE3).ext hA
        replace Q := (Q.ext hE3).ext hA
        obtain ⟨ob, hob⟩ : ∃ ob, ob = w3.heap.size := ⟨_, rfl⟩
        have n0 : w.heap.size ≠ ob := by omega
        have n1 : w.heap.size + 1 ≠ ob := by omega
        have n2 : w.heap.size + 1 + 1 ≠ ob := by omega
        have hwb : w.heap.size ≤ ob := by omega
        rw [← hob] at Y ⊢
        generalize w3.alloc (.cells #[txt l, txt h] 24) = w4 at Y E X P Q ⊢
        clear hA hE3 hZ s3 hob b0 b1 c0 c1 c2 c3
        go_wp2_with (go_at_call 84; have hh := HO1; clear HO1; (refine (hh.out _ E).mono ?_); clear hh; rintro e w5 ⟨rfl, hE⟩; have P5 := Lib.hid ((P).ext hE); have Q5 := Lib.hid ((Q).ext hE); have X5 := Lib.hid ((X).ext hE); have Y5 := Lib.hid ((Y).ext hE); obtain ⟨c0, c1, _, _⟩ := P5.out; obtain ⟨c2, c3, _, _⟩ := Q5.out; obtain ⟨d0, d1, g0, g1⟩ := X5.out; obtain ⟨y0, y1, p0, p1⟩ := Y5.out)
        replace E := E.trans hE
        clear P Q X Y hE c0 c1 c2 c3 d0 d1 g0 g1 y0 y1 p0 p1
        have P := P5.out.other (o := 0) (v := txt m) n0
        have Q := Q5.out.other (o := 0) (v := txt m) n1
        have X := X5.out.other (o := 0) (v := txt m) n2
        have Y := Y5.out.set0 m
        replace E := E.set hwb (o := 0) (txt m)
        clear P5 Q5 X5 Y5
        go_wp2_with (go_at_call 84; have hh := HO2; clear HO2; (refine (hh.out _ E).mono ?_); clear hh; rintro e w6 ⟨rfl, hE⟩; have P5 := Lib.hid ((P).ext hE); have Q5 := Lib.hid ((Q).ext hE); have X5 := Lib.hid ((X).ext hE); have Y5 := Lib.hid ((Y).ext hE); obtain ⟨c0, c1, _, _⟩ := P5.out; obtain ⟨c2, c3, _, _⟩ := Q5.out; obtain ⟨d0, d1, g0, g1⟩ := X5.out; obtain ⟨y0, y1, p0, p1⟩ := Y5.out)
        replace E := E.trans hE
        clear P Q X Y hE c0 c1 c2 c3 d0 d1 g0 g1 y0 y1 p0 p1
        have P := P5.out
        have Q := Q5.out
        have X := X5.out
        have Y := Y5.out
        clear P5 Q5 X5 Y5
        go_wp2_with (go_at_call 84; (refine (HO4.out _ E).mono ?_); rintro e w7 ⟨rfl, hE⟩; have P5 := Lib.hid ((P).ext hE); have Q5 := Lib.hid ((Q).ext hE); have X5 := Lib.hid ((X).ext hE); have Y5 := Lib.hid ((Y).ext hE); obtain ⟨c0, c1, _, _⟩ := P5.out; obtain ⟨c2, c3, _, _⟩ := Q5.out; obtain ⟨d0, d1, g0, g1⟩ := X5.out; obtain ⟨y0, y1, p0, p1⟩ := Y5.out)
        replace E := E.trans hE
        refine bodyPost_ret (v := .tuple #[.agg #[txt [], txt []], .bool false, .int .i64 0]) (by rw [results_cell_tmp_tmp rfl]; go_simp) rfl ?_
        exact ⟨by first | (rw [HRX.out]; done) | (rw [HRX.out]; rfl), extA⟩
      · rw [if_neg h3] at HRX
        have c0 : ((((w.alloc (.cells #[txt l, txt h] 24)).alloc (.cells #[txt m, txt k] 24)).alloc (.cells #[.string ⟨#[]⟩, .string ⟨#[]⟩] 24)).alloc (.cells #[txt l, txt h, txt m, txt k] 24)).cell? ⟨w.heap.size, 0, none⟩ = some (txt l) := by go_simp
        have c1 : ((((w.alloc (.cells #[txt l, txt h] 24)).alloc (.cells #[txt m, txt k] 24)).alloc (.cells #[.string ⟨#[]⟩, .string ⟨#[]⟩] 24)).alloc (.cells #[txt l, txt h, txt m, txt k] 24)).cell? ⟨w.heap.size, 1, none⟩ = some (txt h) := by go_simp
        have c2 : ((((w.alloc (.cells #[txt l, txt h] 24)).alloc (.cells #[txt m, txt k] 24)).alloc (.cells #[.string ⟨#[]⟩, .string ⟨#[]⟩] 24)).alloc (.cells #[txt l, txt h, txt m, txt k] 24)).cell? ⟨w.heap.size + 1, 0, none⟩ = some (txt m) := by go_simp
        have c3 : ((((w.alloc (.cells #[txt l, txt h] 24)).alloc (.cells #[txt m, txt k] 24)).alloc (.cells #[.string ⟨#[]⟩, .string ⟨#[]⟩] 24)).alloc (.cells #[txt l, txt h, txt m, txt k] 24)).cell? ⟨w.heap.size + 1, 1, none⟩ = some (txt k) := by go_simp
        have X : EncAt (w.heap.size + 1 + 1) ((((w.alloc (.cells #[txt l, txt h] 24)).alloc (.cells #[txt m, txt k] 24)).alloc (.cells #[.string ⟨#[]⟩, .string ⟨#[]⟩] 24)).alloc (.cells #[txt l, txt h, txt m, txt k] 24)) [] [] := ⟨by go_simp, by go_simp, by go_simp, by go_simp⟩
        have hZ : Ext w ((((w.alloc (.cells #[txt l, txt h] 24)).alloc (.cells #[txt m, txt k] 24)).alloc (.cells #[.string ⟨#[]⟩, .string ⟨#[]⟩] 24)).alloc (.cells #[txt l, txt h, txt m, txt k] 24)) := extA
        have P : EncAt w.heap.size ((((w.alloc (.cells #[txt l, txt h] 24)).alloc (.cells #[txt m, txt k] 24)).alloc (.cells #[.string ⟨#[]⟩, .string ⟨#[]⟩] 24)).alloc (.cells #[txt l, txt h, txt m, txt k] 24)) l h := ⟨c0, c1, by go_simp, by go_simp⟩
        have Q : EncAt (w.heap.size + 1) ((((w.alloc (.cells #[txt l, txt h] 24)).alloc (.cells #[txt m, txt k] 24)).alloc (.cells #[.string ⟨#[]⟩, .string ⟨#[]⟩] 24)).alloc (.cells #[txt l, txt h, txt m, txt k] 24)) m k := ⟨c2, c3, by go_simp, by go_simp⟩
        go_enter Tryz.func28, Tryz.ntmps28
        go_wp2_with (go_at_call 79; (refine (HB.out _ (((w.alloc (.cells #[txt l, txt h] 24)).alloc (.cells #[txt m, txt k] 24)).alloc (.cells #[.string ⟨#[]⟩, .string ⟨#[]⟩] 24)) _ (by simp) rfl extA).mono ?_); rintro e w3 ⟨rfl, hE3⟩; have c0 := hE3.cell c0; have c1 := hE3.cell c1; have c2 := hE3.cell c2; have c3 := hE3.cell c3; have b0 := cell_lt c0; have b1 := cell_lt c2; dsimp only at b0 b1)
        have hA : Ext w3 (w3.alloc (.cells #[txt l, txt h] 24)) := extA
        have Y : EncAt w3.heap.size (w3.alloc (.cells #[txt l, txt h] 24)) l h := ⟨by go_simp, by go_simp, by go_simp, by go_simp⟩
        have s3 : w.heap.size + 1 + 1 < w3.heap.size := cell_lt (X.ext hE3).c0
        have E := (hZ.trans hE3).trans hA
        replace X := (X.ext hE3).ext hA
        replace P := (P.ext hE3).ext hA
        replace Q := (Q.ext hE3).ext hA
        obtain ⟨ob, hob⟩ : ∃ ob, ob = w3.heap.size := ⟨_, rfl⟩
        have n0 : w.heap.size ≠ ob := by omega
        have n1 : w.heap.size + 1 ≠ ob := by omega
        have n2 : w.heap.size + 1 + 1 ≠ ob := by omega
        have hwb : w.heap.size ≤ ob := by omega
        rw [← hob] at Y ⊢
        generalize w3.alloc (.cells #[txt l, txt h] 24) = w4 at Y E X P Q ⊢
        clear hA hE3 hZ s3 hob b0 b1 c0 c1 c2 c3
        go_wp2_with (go_at_call 84; have hh := HO1; clear HO1; (refine (hh.out _ E).mono ?_); clear hh; rintro e w5 ⟨rfl, hE⟩; have P5 := Lib.hid ((P).ext hE); have Q5 := Lib.hid ((Q).ext hE); have X5 := Lib.hid ((X).ext hE); have Y5 := Lib.hid ((Y).ext hE); obtain ⟨c0, c1, _, _⟩ := P5.out; obtain ⟨c2, c3, _, _⟩ := Q5.out; obtain ⟨d0, d1, g0, g1⟩ := X5.out; obtain ⟨y0, y1, p0, p1⟩ := Y5.out)
        replace E := E.trans hE
        clear P Q X Y hE c0 c1 c2 c3 d0 d1 g0 g1 y0 y1 p0 p1
        have P := P5.out.other (o := 0) (v := txt m) n0
        have Q := Q5.out.other (o := 0) (v := txt m) n1
        have X := X5.out.other (o := 0) (v := txt m) n2
        have Y := Y5.out.set0 m
        replace E := E.set hwb (o := 0) (txt m)
        clear P5 Q5 X5 Y5
        go_wp2_with (go_at_call 84; have hh := HO2; clear HO2; (refine (hh.out _ E).mono ?_); clear hh; rintro e w6 ⟨rfl, hE⟩; have P5 := Lib.hid ((P).ext hE); have Q5 := Lib.hid ((Q).ext hE); have X5 := Lib.hid ((X).ext hE); have Y5 := Lib.hid ((Y).ext hE); obtain ⟨c0, c1, _, _⟩ := P5.out; obtain ⟨c2, c3, _, _⟩ := Q5.out; obtain ⟨d0, d1, g0, g1⟩ := X5.out; obtain ⟨y0, y1, p0, p1⟩ := Y5.out)
        replace E := E.trans hE
        clear P Q X Y hE c0 c1 c2 c3 d0 d1 g0 g1 y0 y1 p0 p1
        have P := P5.out
        have Q := Q5.out
        have X := X5.out
        have Y := Y5.out
        clear P5 Q5 X5 Y5
        go_wp2_with (go_at_call 84; (refine (HO4.out _ E).mono ?_); rintro e w7 ⟨rfl, hE⟩; have P5 := Lib.hid ((P).ext hE); have Q5 := Lib.hid ((Q).ext hE); have X5 := Lib.hid ((X).ext hE); have Y5 := Lib.hid ((Y).ext hE); obtain ⟨c0, c1, _, _⟩ := P5.out; obtain ⟨c2, c3, _, _⟩ := Q5.out; obtain ⟨d0, d1, g0, g1⟩ := X5.out; obtain ⟨y0, y1, p0, p1⟩ := Y5.out)
        replace E := E.trans hE
        refine bodyPost_ret (v := .tuple #[.agg #[txt m, txt h], .bool true, .int .i64 0]) (by rw [results_cell_tmp_tmp rfl]; go_simp) rfl ?_
        exact ⟨by first | (rw [HRX.out]; done) | (rw [HRX.out]; rfl), extA⟩
  · have HR1 := HR
    by_cases h2 : z2 < 0
    · have HRX : Hid (C = if 0 < ordQ l k then (([], []), false, 0) else ((l, k), true, 0)) := HR1.out l k (by rw [if_neg h1]) (by rw [if_pos h2])
      have HO4 := Lib.hid (HO3.out l k (.inl rfl) (.inr rfl))
      clear HR1 HR HO3
      generalize ordQ l k = z3 at HRX HO4
      by_cases h3 : 0 < z3
      · rw [if_pos h3] at HRX
        have c0 : ((((w.alloc (.cells #[txt l, txt h] 24)).alloc (.cells #[txt m, txt k] 24)).alloc (.cells #[.string ⟨#[]⟩, .string ⟨#[]⟩] 24)).alloc (.cells #[txt l, txt h, txt m, txt k] 24)).cell? ⟨w.heap.size, 0, none⟩ = some (txt l) := by go_simp
        have c1 : ((((w.alloc (.cells #[txt l, txt h] 24)).alloc (.cells #[txt m, txt k] 24)).alloc (.cells #[.string ⟨#[]⟩, .string ⟨#[]⟩] 24)).alloc (.cells #[txt l, txt h, txt m, txt k] 24)).cell? ⟨w.heap.size, 1, none⟩ = some (txt h) := by go_simp
        have c2 : ((((w.alloc (.cells #[txt l, txt h] 24)).alloc (.cells #[txt m, txt k] 24)).alloc (.cells #[.string ⟨#[]⟩, .string ⟨#[]⟩] 24)).alloc (.cells #[txt l, txt h, txt m, txt k] 24)).cell? ⟨w.heap.size + 1, 0, none⟩ = some (txt m) := by go_simp
        have c3 : ((((w.alloc (.cells #[txt l, txt h] 24)).alloc (.cells #[txt m, txt k] 24)).alloc (.cells #[.string ⟨#[]⟩, .string ⟨#[]⟩] 24)).alloc (.cells #[txt l, txt h, txt m, txt k] 24)).cell? ⟨w.heap.size + 1, 1, none⟩ = some (txt k) := by go_simp
        have X : EncAt (w.heap.size + 1 + 1) ((((w.alloc (.cells #[txt l, txt h] 24)).alloc (.cells #[txt m, txt k] 24)).alloc (.cells #[.string ⟨#[]⟩, .string ⟨#[]⟩] 24)).alloc (.cells #[txt l, txt h, txt m, txt k] 24)) [] [] := ⟨by go_simp, by go_simp, by go_simp, by go_simp⟩
        have hZ : Ext w ((((w.alloc (.cells #[txt l, txt h] 24)).alloc (.cells #[txt m, txt k] 24)).alloc (.cells #[.string ⟨#[]⟩, .string ⟨#[]⟩] 24)).alloc (.cells #[txt l, txt h, txt m, txt k] 24)) := extA
        have P : EncAt w.heap.size ((((w.alloc (.cells #[txt l, txt h] 24)).alloc (.cells #[txt m, txt k] 24)).alloc (.cells #[.string ⟨#[]⟩, .string ⟨#[]⟩] 24)).alloc (.cells #[txt l, txt h, txt m, txt k] 24)) l h := ⟨c0, c1, by go_simp, by go_simp⟩
        have Q : EncAt (w.heap.size + 1) ((((w.alloc (.cells #[txt l, txt h] 24)).alloc (.cells #[txt m, txt k] 24)).alloc (.cells #[.string ⟨#[]⟩, .string ⟨#[]⟩] 24)).alloc (.cells #[txt l, txt h, txt m, txt k] 24)) m k := ⟨c2, c3, by go_simp, by go_simp⟩
        go_enter Tryz.func28, Tryz.ntmps28
        go_wp2_with (go_at_call 79; (refine (HB.out _ (((w.alloc (.cells #[txt l, txt h] 24)).alloc (.cells #[txt m, txt k] 24)).alloc (.cells #[.string ⟨#[]⟩, .string ⟨#[]⟩] 24)) _ (by simp) rfl extA).mono ?_); rintro e w3 ⟨rfl, hE3⟩; have c0 := hE3.cell c0; have c1 := hE3.cell c1; have c2 := hE3.cell c2; have c3 := hE3.cell c3; have b0 := cell_lt c0; have b1 := cell_lt c2; dsimp only at b0 b1)
        have hA : Ext w3 (w3.alloc (.cells #[txt l, txt h] 24)) := extA
        have Y : EncAt w3.heap.size (w3.alloc (.cells #[txt l, txt h] 24)) l h := ⟨by go_simp, by go_simp, by go_simp, by go_simp⟩
        have s3 : w.heap.size + 1 + 1 < w3.heap.size := cell_lt (X.ext hE3).c0
        have E := (hZ.trans hE3).trans hA
        replace X := (X.ext hE3).ext hA
        replace P := (P.ext hE3).ext hA
        replace Q := (Q.ext hE3).ext hA
        obtain ⟨ob, hob⟩ : ∃ ob, ob = w3.heap.size := ⟨_, rfl⟩
        have n0 : w.heap.size ≠ ob := by omega
        have n1 : w.heap.size + 1 ≠ ob := by omega
        have n2 : w.heap.size + 1 + 1 ≠ ob := by omega
        have hwb : w.heap.size ≤ ob := by omega
        rw [← hob] at Y ⊢
        generalize w3.alloc (.cells #[txt l, txt h] 24) = w4 at Y E X P Q ⊢
        clear hA hE3 hZ s3 hob b0 b1 c0 c1 c2 c3
        go_wp2_with (go_at_call 84; have hh := HO1; clear HO1; (refine (hh.out _ E).mono ?_); clear hh; rintro e w5 ⟨rfl, hE⟩; have P5 := Lib.hid ((P).ext hE); have Q5 := Lib.hid ((Q).ext hE); have X5 := Lib.hid ((X).ext hE); have Y5 := Lib.hid ((Y).ext hE); obtain ⟨c0, c1, _, _⟩ := P5.out; obtain ⟨c2, c3, _, _⟩ := Q5.out; obtain ⟨d0, d1, g0, g1⟩ := X5.out; obtain ⟨y0, y1, p0, p1⟩ := Y5.out)
        replace E := E.trans hE
        clear P Q X Y hE c0 c1 c2 c3 d0 d1 g0 g1 y0 y1 p0 p1
        have P := P5.out
        have Q := Q5.out
        have X := X5.out
        have Y := Y5.out
        clear P5 Q5 X5 Y5
        go_wp2_with (go_at_call 84; have hh := HO2; clear HO2; (refine (hh.out _ E).mono ?_); clear hh; rintro e w6 ⟨rfl, hE⟩; have P5 := Lib.hid ((P).ext hE); have Q5 := Lib.hid ((Q).ext hE); have X5 := Lib.hid ((X).ext hE); have Y5 := Lib.hid ((Y).ext hE); obtain ⟨c0, c1, _, _⟩ := P5.out; obtain ⟨c2, c3, _, _⟩ := Q5.out; obtain ⟨d0, d1, g0, g1⟩ := X5.out; obtain ⟨y0, y1, p0, p1⟩ := Y5.out)
        replace E := E.trans hE
        clear P Q X Y hE c0 c1 c2 c3 d0 d1 g0 g1 y0 y1 p0 p1
        have P := P5.out.other (o := 1) (v := txt k) n0
        have Q := Q5.out.other (o := 1) (v := txt k) n1
        have X := X5.out.other (o := 1) (v := txt k) n2
        have Y := Y5.out.set1 k
        replace E := E.set hwb (o := 1) (txt k)
        clear P5 Q5 X5 Y5
        go_wp2_with (go_at_call 84; (refine (HO4.out _ E).mono ?_); rintro e w7 ⟨rfl, hE⟩; have P5 := Lib.hid ((P).ext hE); have Q5 := Lib.hid ((Q).ext hE); have X5 := Lib.hid ((X).ext hE); have Y5 := Lib.hid ((Y).ext hE); obtain ⟨c0, c1, _, _⟩ := P5.out; obtain ⟨c2, c3, _, _⟩ := Q5.out; obtain ⟨d0, d1, g0, g1⟩ := X5.out; obtain ⟨y0, y1, p0, p1⟩ := Y5.out)
        replace E := E.trans hE
        refine bodyPost_ret (v := .tuple #[.agg #[txt [], txt []], .bool false, .int .i64 0]) (by rw [results_cell_tmp_tmp rfl]; go_simp) rfl ?_
        exact ⟨by first | (rw [HRX.out]; done) | (rw [HRX.out]; rfl), extA⟩
      · rw [if_neg h3] at HRX
        have c0 : ((((w.alloc (.cells #[txt l, txt h] 24)).alloc (.cells #[txt m, txt k] 24)).alloc (.cells #[.string ⟨#[]⟩, .string ⟨#[]⟩] 24)).alloc (.cells #[txt l, txt h, txt m, txt k] 24)).cell? ⟨w.heap.size, 0, none⟩ = some (txt l) := by go_simp
        have c1 : ((((w.alloc (.cells #[txt l, txt h] 24)).alloc (.cells #[txt m, txt k] 24)).alloc (.cells #[.string ⟨#[]⟩, .string ⟨#[]⟩] 24)).alloc (.cells #[txt l, txt h, txt m, txt k] 24)).cell? ⟨w.heap.size, 1, none⟩ = some (txt h) := by go_simp
        have c2 : ((((w.alloc (.cells #[txt l, txt h] 24)).alloc (.cells #[txt m, txt k] 24)).alloc (.cells #[.string ⟨#[]⟩, .string ⟨#[]⟩] 24)).alloc (.cells #[txt l, txt h, txt m, txt k] 24)).cell? ⟨w.heap.size + 1, 0, none⟩ = some (txt m) := by go_simp
        have c3 : ((((w.alloc (.cells #[txt l, txt h] 24)).alloc (.cells #[txt m, txt k] 24)).alloc (.cells #[.string ⟨#[]⟩, .string ⟨#[]⟩] 24)).alloc (.cells #[txt l, txt h, txt m, txt k] 24)).cell? ⟨w.heap.size + 1, 1, none⟩ = some (txt k) := by go_simp
        have X : EncAt (w.heap.size + 1 + 1) ((((w.alloc (.cells #[txt l, txt h] 24)).alloc (.cells #[txt m, txt k] 24)).alloc (.cells #[.string ⟨#[]⟩, .string ⟨#[]⟩] 24)).alloc (.cells #[txt l, txt h, txt m, txt k] 24)) [] [] := ⟨by go_simp, by go_simp, by go_simp, by go_simp⟩
        have hZ : Ext w ((((w.alloc (.cells #[txt l, txt h] 24)).alloc (.cells #[txt m, txt k] 24)).alloc (.cells #[.string ⟨#[]⟩, .string ⟨#[]⟩] 24)).alloc (.cells #[txt l, txt h, txt m, txt k] 24)) := extA
        have P : EncAt w.heap.size ((((w.alloc (.cells #[txt l, txt h] 24)).alloc (.cells #[txt m, txt k] 24)).alloc (.cells #[.string ⟨#[]⟩, .string ⟨#[]⟩] 24)).alloc (.cells #[txt l, txt h, txt m, txt k] 24)) l h := ⟨c0, c1, by go_simp, by go_simp⟩
        have Q : EncAt (w.heap.size + 1) ((((w.alloc (.cells #[txt l, txt h] 24)).alloc (.cells #[txt m, txt k] 24)).alloc (.cells #[.string ⟨#[]⟩, .string ⟨#[]⟩] 24)).alloc (.cells #[txt l, txt h, txt m, txt k] 24)) m k := ⟨c2, c3, by go_simp, by go_simp⟩
        go_enter Tryz.func28, Tryz.ntmps28
        go_wp2_with (go_at_call 79; (refine (HB.out _ (((w.alloc (.cells #[txt l, txt h] 24)).alloc (.cells #[txt m, txt k] 24)).alloc (.cells #[.string ⟨#[]⟩, .string ⟨#[]⟩] 24)) _ (by simp) rfl extA).mono ?_); rintro e w3 ⟨rfl, hE3⟩; have c0 := hE3.cell c0; have c1 := hE3.cell c1; have c2 := hE3.cell c2; have c3 := hE3.cell c3; have b0 := cell_lt c0; have b1 := cell_lt c2; dsimp only at b0 b1)
        have hA : Ext w3 (w3.alloc (.cells #[txt l, txt h] 24)) := extA
        have Y : EncAt w3.heap.size (w3.alloc (.cells #[txt l, txt h] 24)) l h := ⟨by go_simp, by go_simp, by go_simp, by go_simp⟩
        have s3 : w.heap.size + 1 + 1 < w3.heap.size := cell_lt (X.ext hE3).c0
        have E := (hZ.trans hE3).trans hA
        replace X := (X.ext hE3).ext hA
        replace P := (P.ext hE3).ext hA
        replace Q := (Q.ext hE3).ext hA
        obtain ⟨ob, hob⟩ : ∃ ob, ob = w3.heap.size := ⟨_, rfl⟩
        have n0 : w.heap.size ≠ ob := by omega
        have n1 : w.heap.size + 1 ≠ ob := by omega
        have n2 : w.heap.size + 1 + 1 ≠ ob := by omega
        have hwb : w.heap.size ≤ ob := by omega
        rw [← hob] at Y ⊢
        generalize w3.alloc (.cells #[txt l, txt h] 24) = w4 at Y E X P Q ⊢
        clear hA hE3 hZ s3 hob b0 b1 c0 c1 c2 c3
        go_wp2_with (go_at_call 84; have hh := HO1; clear HO1; (refine (hh.out _ E).mono ?_); clear hh; rintro e w5 ⟨rfl, hE⟩; have P5 := Lib.hid ((P).ext hE); have Q5 := Lib.hid ((Q).ext hE); have X5 := Lib.hid ((X).ext hE); have Y5 := Lib.hid ((Y).ext hE); obtain ⟨c0, c1, _, _⟩ := P5.out; obtain ⟨c2, c3, _, _⟩ := Q5.out; obtain ⟨d0, d1, g0, g1⟩ := X5.out; obtain ⟨y0, y1, p0, p1⟩ := Y5.out)
        replace E := E.trans hE
        clear P Q X Y hE c0 c1 c2 c3 d0 d1 g0 g1 y0 y1 p0 p1
        have P := P5.out
        have Q := Q5.out
        have X := X5.out
        have Y := Y5.out
        clear P5 Q5 X5 Y5
        go_wp2_with (go_at_call 84; have hh := HO2; clear HO2; (refine (hh.out _ E).mono ?_); clear hh; rintro e w6 ⟨rfl, hE⟩; have P5 := Lib.hid ((P).ext hE); have Q5 := Lib.hid ((Q).ext hE); have X5 := Lib.hid ((X).ext hE); have Y5 := Lib.hid ((Y).ext hE); obtain ⟨c0, c1, _, _⟩ := P5.out; obtain ⟨c2, c3, _, _⟩ := Q5.out; obtain ⟨d0, d1, g0, g1⟩ := X5.out; obtain ⟨y0, y1, p0, p1⟩ := Y5.out)
        replace E := E.trans hE
        clear P Q X Y hE c0 c1 c2 c3 d0 d1 g0 g1 y0 y1 p0 p1
        have P := P5.out.other (o := 1) (v := txt k) n0
        have Q := Q5.out.other (o := 1) (v := txt k) n1
        have X := X5.out.other (o := 1) (v := txt k) n2
        have Y := Y5.out.set1 k
        replace E := E.set hwb (o := 1) (txt k)
        clear P5 Q5 X5 Y5
        go_wp2_with (go_at_call 84; (refine (HO4.out _ E).mono ?_); rintro e w7 ⟨rfl, hE⟩; have P5 := Lib.hid ((P).ext hE); have Q5 := Lib.hid ((Q).ext hE); have X5 := Lib.hid ((X).ext hE); have Y5 := Lib.hid ((Y).ext hE); obtain ⟨c0, c1, _, _⟩ := P5.out; obtain ⟨c2, c3, _, _⟩ := Q5.out; obtain ⟨d0, d1, g0, g1⟩ := X5.out; obtain ⟨y0, y1, p0, p1⟩ := Y5.out)
        replace E := E.trans hE
        refine bodyPost_ret (v := .tuple #[.agg #[txt l, txt k], .bool true, .int .i64 0]) (by rw [results_cell_tmp_tmp rfl]; go_simp) rfl ?_
        exact ⟨by first | (rw [HRX.out]; done) | (rw [HRX.out]; rfl), extA⟩
    · have HRX : Hid (C = if 0 < ordQ l h then (([], []), false, 0) else ((l, h), true, 0)) := HR1.out l h (by rw [if_neg h1]) (by rw [if_neg h2])
      have HO4 := Lib.hid (HO3.out l h (.inl rfl) (.inl rfl))
      clear HR1 HR HO3
      generalize ordQ l h = z3 at HRX HO4
      by_cases h3 : 0 < z3
      · rw [if_pos h3] at HRX
        have c0 : ((((w.alloc (.cells #[txt l, txt h] 24)).alloc (.cells #[txt m, txt k] 24)).alloc (.cells #[.string ⟨#[]⟩, .string ⟨#[]⟩] 24)).alloc (.cells #[txt l, txt h, txt m, txt k] 24)).cell? ⟨w.heap.size, 0, none⟩ = some (txt l) := by go_simp
        have c1 : ((((w.alloc (.cells #[txt l, txt h] 24)).alloc (.cells #[txt m, txt k] 24)).alloc (.cells #[.string ⟨#[]⟩, .string ⟨#[]⟩] 24)).alloc (.cells #[txt l, txt h, txt m, txt k] 24)).cell? ⟨w.heap.size, 1, none⟩ = some (txt h) := by go_simp
        have c2 : ((((w.alloc (.cells #[txt l, txt h] 24)).alloc (.cells #[txt m, txt k] 24)).alloc (.cells #[.string ⟨#[]⟩, .string ⟨#[]⟩] 24)).alloc (.cells #[txt l, txt h, txt m, txt k] 24)).cell? ⟨w.heap.size + 1, 0, none⟩ = some (txt m) := by go_simp
        have c3 : ((((w.alloc (.cells #[txt l, txt h] 24)).alloc (.cells #[txt m, txt k] 24)).alloc (.cells #[.string ⟨#[]⟩, .string ⟨#[]⟩] 24)).alloc (.cells #[txt l, txt h, txt m, txt k] 24)).cell? ⟨w.heap.size + 1, 1, none⟩ = some (txt k) := by go_simp
        have X : EncAt (w.heap.size + 1 + 1) ((((w.alloc (.cells #[txt l, txt h] 24)).alloc (.cells #[txt m, txt k] 24)).alloc (.cells #[.string ⟨#[]⟩, .string ⟨#[]⟩] 24)).alloc (.cells #[txt l, txt h, txt m, txt k] 24)) [] [] := ⟨by go_simp, by go_simp, by go_simp, by go_simp⟩
        have hZ : Ext w ((((w.alloc (.cells #[txt l, txt h] 24)).alloc (.cells #[txt m, txt k] 24)).alloc (.cells #[.string ⟨#[]⟩, .string ⟨#[]⟩] 24)).alloc (.cells #[txt l, txt h, txt m, txt k] 24)) := extA
        have P : EncAt w.heap.size ((((w.alloc (.cells #[txt l, txt h] 24)).alloc (.cells #[txt m, txt k] 24)).alloc (.cells #[.string ⟨#[]⟩, .string ⟨#[]⟩] 24)).alloc (.cells #[txt l, txt h, txt m, txt k] 24)) l h := ⟨c0, c1, by go_simp, by go_simp⟩
        have Q : EncAt (w.heap.size + 1) ((((w.alloc (.cells #[txt l, txt h] 24)).alloc (.cells #[txt m, txt k] 24)).alloc (.cells #[.string ⟨#[]⟩, .string ⟨#[]⟩] 24)).alloc (.cells #[txt l, txt h, txt m, txt k] 24)) m k := ⟨c2, c3, by go_simp, by go_simp⟩
        go_enter Tryz.func28, Tryz.ntmps28
        go_wp2_with (go_at_call 79; (refine (HB.out _ (((w.alloc (.cells #[txt l, txt h] 24)).alloc (.cells #[txt m, txt k] 24)).alloc (.cells #[.string ⟨#[]⟩, .string ⟨#[]⟩] 24)) _ (by simp) rfl extA).mono ?_); rintro e w3 ⟨rfl, hE3⟩; have c0 := hE3.cell c0; have c1 := hE3.cell c1; have c2 := hE3.cell c2; have c3 := hE3.cell c3; have b0 := cell_lt c0; have b1 := cell_lt c2; dsimp only at b0 b1)
        have hA : Ext w3 (w3.alloc (.cells #[txt l, txt h] 24)) := extA
        have Y : EncAt w3.heap.size (w3.alloc (.cells #[txt l, txt h] 24)) l h := ⟨by go_simp, by go_simp, by go_simp, by go_simp⟩
        have s3 : w.heap.size + 1 + 1 < w3.heap.size := cell_lt (X.ext hE3).c0
        have E := (hZ.trans hE3).trans hA
        replace X := (X.ext hE3).ext hA
        replace P := (P.ext hE3).ext hA
        replace Q := (Q.ext hE3).ext hA
        obtain ⟨ob, hob⟩ : ∃ ob, ob = w3.heap.size := ⟨_, rfl⟩
        have n0 : w.heap.size ≠ ob := by omega
        have n1 : w.heap.size + 1 ≠ ob := by omega
        have n2 : w.heap.size + 1 + 1 ≠ ob := by omega
        have hwb : w.heap.size ≤ ob := by omega
        rw [← hob] at Y ⊢
        generalize w3.alloc (.cells #[txt l, txt h] 24) = w4 at Y E X P Q ⊢
        clear hA hE3 hZ s3 hob b0 b1 c0 c1 c2 c3
        go_wp2_with (go_at_call 84; have hh := HO1; clear HO1; (refine (hh.out _ E).mono ?_); clear hh; rintro e w5 ⟨rfl, hE⟩; have P5 := Lib.hid ((P).ext hE); have Q5 := Lib.hid ((Q).ext hE); have X5 := Lib.hid ((X).ext hE); have Y5 := Lib.hid ((Y).ext hE); obtain ⟨c0, c1, _, _⟩ := P5.out; obtain ⟨c2, c3, _, _⟩ := Q5.out; obtain ⟨d0, d1, g0, g1⟩ := X5.out; obtain ⟨y0, y1, p0, p1⟩ := Y5.out)
        replace E := E.trans hE
        clear P Q X Y hE c0 c1 c2 c3 d0 d1 g0 g1 y0 y1 p0 p1
        have P := P5.out
        have Q := Q5.out
        have X := X5.out
        have Y := Y5.out
        clear P5 Q5 X5 Y5
        go_wp2_with (go_at_call 84; have hh := HO2; clear HO2; (refine (hh.out _ E).mono ?_); clear hh; rintro e w6 ⟨rfl, hE⟩; have P5 := Lib.hid ((P).ext hE); have Q5 := Lib.hid ((Q).ext hE); have X5 := Lib.hid ((X).ext hE); have Y5 := Lib.hid ((Y).ext hE); obtain ⟨c0, c1, _, _⟩ := P5.out; obtain ⟨c2, c3, _, _⟩ := Q5.out; obtain ⟨d0, d1, g0, g1⟩ := X5.out; obtain ⟨y0, y1, p0, p1⟩ := Y5.out)
        replace E := E.trans hE
        clear P Q X Y hE c0 c1 c2 c3 d0 d1 g0 g1 y0 y1 p0 p1
        have P := P5.out
        have Q := Q5.out
        have X := X5.out
        have Y := Y5.out
        clear P5 Q5 X5 Y5
        go_wp2_with (go_at_call 84; (refine (HO4.out _ E).mono ?_); rintro e w7 ⟨rfl, hE⟩; have P5 := Lib.hid ((P).ext hE); have Q5 := Lib.hid ((Q).ext hE); have X5 := Lib.hid ((X).ext hE); have Y5 := Lib.hid ((Y).ext hE); obtain ⟨c0, c1, _, _⟩ := P5.out; obtain ⟨c2, c3, _, _⟩ := Q5.out; obtain ⟨d0, d1, g0, g1⟩ := X5.out; obtain ⟨y0, y1, p0, p1⟩ := Y5.out)
        replace E := E.trans hE
        refine bodyPost_ret (v := .tuple #[.agg #[txt [], txt []], .bool false, .int .i64 0]) (by rw [results_cell_tmp_tmp rfl]; go_simp) rfl ?_
        exact ⟨by first | (rw [HRX.out]; done) | (rw [HRX.out]; rfl), extA⟩
      · rw [if_neg h3] at HRX
        have c0 : ((((w.alloc (.cells #[txt l, txt h] 24)).alloc (.cells #[txt m, txt k] 24)).alloc (.cells #[.string ⟨#[]⟩, .string ⟨#[]⟩] 24)).alloc (.cells #[txt l, txt h, txt m, txt k] 24)).cell? ⟨w.heap.size, 0, none⟩ = some (txt l) := by go_simp
        have c1 : ((((w.alloc (.cells #[txt l, txt h] 24)).alloc (.cells #[txt m, txt k] 24)).alloc (.cells #[.string ⟨#[]⟩, .string ⟨#[]⟩] 24)).alloc (.cells #[txt l, txt h, txt m, txt k] 24)).cell? ⟨w.heap.size, 1, none⟩ = some (txt h) := by go_simp
        have c2 : ((((w.alloc (.cells #[txt l, txt h] 24)).alloc (.cells #[txt m, txt k] 24)).alloc (.cells #[.string ⟨#[]⟩, .string ⟨#[]⟩] 24)).alloc (.cells #[txt l, txt h, txt m, txt k] 24)).cell? ⟨w.heap.size + 1, 0, none⟩ = some (txt m) := by go_simp
        have c3 : ((((w.alloc (.cells #[txt l, txt h] 24)).alloc (.cells #[txt m, txt k] 24)).alloc (.cells #[.string ⟨#[]⟩, .string ⟨#[]⟩] 24)).alloc (.cells #[txt l, txt h, txt m, txt k] 24)).cell? ⟨w.heap.size + 1, 1, none⟩ = some (txt k) := by go_simp
        have X : EncAt (w.heap.size + 1 + 1) ((((w.alloc (.cells #[txt l, txt h] 24)).alloc (.cells #[txt m, txt k] 24)).alloc (.cells #[.string ⟨#[]⟩, .string ⟨#[]⟩] 24)).alloc (.cells #[txt l, txt h, txt m, txt k] 24)) [] [] := ⟨by go_simp, by go_simp, by go_simp, by go_simp⟩
        have hZ : Ext w ((((w.alloc (.cells #[txt l, txt h] 24)).alloc (.cells #[txt m, txt k] 24)).alloc (.cells #[.string ⟨#[]⟩, .string ⟨#[]⟩] 24)).alloc (.cells #[txt l, txt h, txt m, txt k] 24)) := extA
        have P : EncAt w.heap.size ((((w.alloc (.cells #[txt l, txt h] 24)).alloc (.cells #[txt m, txt k] 24)).alloc (.cells #[.string ⟨#[]⟩, .string ⟨#[]⟩] 24)).alloc (.cells #[txt l, txt h, txt m, txt k] 24)) l h := ⟨c0, c1, by go_simp, by go_simp⟩
        have Q : EncAt (w.heap.size + 1) ((((w.alloc (.cells #[txt l, txt h] 24)).alloc (.cells #[txt m, txt k] 24)).alloc (.cells #[.string ⟨#[]⟩, .string ⟨#[]⟩] 24)).alloc (.cells #[txt l, txt h, txt m, txt k] 24)) m k := ⟨c2, c3, by go_simp, by go_simp⟩
        go_enter Tryz.func28, Tryz.ntmps28
        go_wp2_with (go_at_call 79; (refine (HB.out _ (((w.alloc (.cells #[txt l, txt h] 24)).alloc (.cells #[txt m, txt k] 24)).alloc (.cells #[.string ⟨#[]⟩, .string ⟨#[]⟩] 24)) _ (by simp) rfl extA).mono ?_); rintro e w3 ⟨rfl, hE3⟩; have c0 := hE3.cell c0; have c1 := hE3.cell c1; have c2 := hE3.cell c2; have c3 := hE3.cell c3; have b0 := cell_lt c0; have b1 := cell_lt c2; dsimp only at b0 b1)
        have hA : Ext w3 (w3.alloc (.cells #[txt l, txt h] 24)) := extA
        have Y : EncAt w3.heap.size (w3.alloc (.cells #[txt l, txt h] 24)) l h := ⟨by go_simp, by go_simp, by go_simp, by go_simp⟩
        have s3 : w.heap.size + 1 + 1 < w3.heap.size := cell_lt (X.ext hE3).c0
        have E := (hZ.trans hE3).trans hA
        replace X := (X.ext hE3).ext hA
        replace P := (P.ext hE3).ext hA
        replace Q := (Q.ext hE3).ext hA
        obtain ⟨ob, hob⟩ : ∃ ob, ob = w3.heap.size := ⟨_, rfl⟩
        have n0 : w.heap.size ≠ ob := by omega
        have n1 : w.heap.size + 1 ≠ ob := by omega
        have n2 : w.heap.size + 1 + 1 ≠ ob := by omega
        have hwb : w.heap.size ≤ ob := by omega
        rw [← hob] at Y ⊢
        generalize w3.alloc (.cells #[txt l, txt h] 24) = w4 at Y E X P Q ⊢
        clear hA hE3 hZ s3 hob b0 b1 c0 c1 c2 c3
        go_wp2_with (go_at_call 84; have hh := HO1; clear HO1; (refine (hh.out _ E).mono ?_); clear hh; rintro e w5 ⟨rfl, hE⟩; have P5 := Lib.hid ((P).ext hE); have Q5 := Lib.hid ((Q).ext hE); have X5 := Lib.hid ((X).ext hE); have Y5 := Lib.hid ((Y).ext hE); obtain ⟨c0, c1, _, _⟩ := P5.out; obtain ⟨c2, c3, _, _⟩ := Q5.out; obtain ⟨d0, d1, g0, g1⟩ := X5.out; obtain ⟨y0, y1, p0, p1⟩ := Y5.out)
        replace E := E.trans hE
        clear P Q X Y hE c0 c1 c2 c3 d0 d1 g0 g1 y0 y1 p0 p1
        have P := P5.out
        have Q := Q5.out
        have X := X5.out
        have Y := Y5.out
        clear P5 Q5 X5 Y5
        go_wp2_with (go_at_call 84; have hh := HO2; clear HO2; (refine (hh.out _ E).mono ?_); clear hh; rintro e w6 ⟨rfl, hE⟩; have P5 := Lib.hid ((P).ext hE); have Q5 := Lib.hid ((Q).ext hE); have X5 := Lib.hid ((X).ext hE); have Y5 := Lib.hid ((Y).ext hE); obtain ⟨c0, c1, _, _⟩ := P5.out; obtain ⟨c2, c3, _, _⟩ := Q5.out; obtain ⟨d0, d1, g0, g1⟩ := X5.out; obtain ⟨y0, y1, p0, p1⟩ := Y5.out)
        replace E := E.trans hE
        clear P Q X Y hE c0 c1 c2 c3 d0 d1 g0 g1 y0 y1 p0 p1
        have P := P5.out
        have Q := Q5.out
        have X := X5.out
        have Y := Y5.out
        clear P5 Q5 X5 Y5
        go_wp2_with (go_at_call 84; (refine (HO4.out _ E).mono ?_); rintro e w7 ⟨rfl, hE⟩; have P5 := Lib.hid ((P).ext hE); have Q5 := Lib.hid ((Q).ext hE); have X5 := Lib.hid ((X).ext hE); have Y5 := Lib.hid ((Y).ext hE); obtain ⟨c0, c1, _, _⟩ := P5.out; obtain ⟨c2, c3, _, _⟩ := Q5.out; obtain ⟨d0, d1, g0, g1⟩ := X5.out; obtain ⟨y0, y1, p0, p1⟩ := Y5.out)
        replace E := E.trans hE
        refine bodyPost_ret (v := .tuple #[.agg #[txt l, txt h], .bool true, .int .i64 0]) (by rw [results_cell_tmp_tmp rfl]; go_simp) rfl ?_
        exact ⟨by first | (rw [HRX.out]; done) | (rw [HRX.out]; rfl), extA⟩
end Go.Proofs.YtdejgaiocjfhjaaGreatDoor
namespace Go.Proofs.YtdejgaiocjfhjaaGreatDoor
open Go.RowKit
end Go.Proofs.YtdejgaiocjfhjaaGreatDoor
namespace Go.Proofs.YtdejgaiocjfhjaaGreatDoor
open Go.RowKit
end Go.Proofs.YtdejgaiocjfhjaaGreatDoor
namespace Go.Proofs.YtdejgaiocjfhjaaGreatDoor
open Go.RowKit
theorem ends_bad1 {r s : Res} (h : r.2 ≠ 0) : endsR r s = (([], []), r.2) := by unfold endsR badEnc; rw [if_pos h]
theorem ends_bad2 {r s : Res} (h : r.2 = 0) (k : s.2 ≠ 0) : endsR r s = (([], []), s.2) := by unfold endsR badEnc; rw [if_neg (not_not_intro h), if_pos k]
theorem ends_good {r s : Res} (h : r.2 = 0) (k : s.2 = 0) : endsR r s = ((r.1, s.1), 0) := by unfold endsR; rw [if_neg (not_not_intro h), if_neg (not_not_intro k)]
set_option maxHeartbeats 8000000 in
set_option maxRecDepth 100000 in
theorem eEnds_any (f : Nat) (a b c d : Txt) (r s : Res) (w : World) (heg : ∀ args w, (callFunc f args).run Tryz.prog w = .ok (.enter f args) w)
    (h1 : ∀ W, Ext w W → Calls Tryz.prog f #[txt a, txt b] W (ResP r W)) (h2 : ∀ W, Ext w W → Calls Tryz.prog f #[txt c, txt d] W (ResP s W)) :
    Calls Tryz.prog 71 #[.func (.func f) #[] #[], .agg #[txt a, txt b, txt c, txt d]] w (EncP (endsR r s) w) := by
  have H1 := Lib.hid h1
  have H2 := Lib.hid h2
  unfold ResP at H1 H2
  unfold EncP
  clear h1 h2
  have hi0 : ∀ W, (Instr.index 95 (.agg #[txt a, txt b, txt c, txt d]) (.int .i64 0)).run Tryz.prog W = .ok (.agg #[txt a, txt b]) W := fun W => by simp [Instr.index, go_sem]
  have hi1 : ∀ W, (Instr.index 95 (.agg #[txt a, txt b, txt c, txt d]) (.int .i64 1)).run Tryz.prog W = .ok (.agg #[txt c, txt d]) W := fun W => by simp [Instr.index, go_sem]
  obtain ⟨r1, r2⟩ := r
  obtain ⟨s1, s2⟩ := s
  dsimp only at H1 H2
  obtain ⟨C, hC⟩ : ∃ C, C = endsR (r1, r2) (s1, s2) := ⟨_, rfl⟩
  rw [← hC]
  by_cases hr : r2 = 0
  rotate_left
  · have HR : Hid (C = (([], []), r2)) := by show _ = _; rw [hC]; exact ends_bad1 hr
    have hne : ((r2 : Int) != 0) = true := by rw [bne_iff_ne]; omega
    clear hr hC
    have X : EncAt (w.heap.size + 1) ((((w.alloc (.cells #[txt a, txt b, txt c, txt d] 95)).alloc (.cells #[.string ⟨#[]⟩, .string ⟨#[]⟩] 24)).alloc (.cells #[.string ⟨#[]⟩, .string ⟨#[]⟩] 93)).alloc (.cells #[txt a, txt b] 93)) [] [] := ⟨by go_simp, by go_simp, by go_simp, by go_simp⟩
    have O : EncAt (w.heap.size + 1 + 1) ((((w.alloc (.cells #[txt a, txt b, txt c, txt d] 95)).alloc (.cells #[.string ⟨#[]⟩, .string ⟨#[]⟩] 24)).alloc (.cells #[.string ⟨#[]⟩, .string ⟨#[]⟩] 93)).alloc (.cells #[txt a, txt b] 93)) [] [] := ⟨by go_simp, by go_simp, by go_simp, by go_simp⟩
    have EV : Ext w ((((w.alloc (.cells #[txt a, txt b, txt c, txt d] 95)).alloc (.cells #[.string ⟨#[]⟩, .string ⟨#[]⟩] 24)).alloc (.cells #[.string ⟨#[]⟩, .string ⟨#[]⟩] 93)).alloc (.cells #[txt a, txt b] 93)) := extA
    go_enter Tryz.func71, Tryz.ntmps71
    go_wp2
    refine wp_loop_rounds 3 ?_
    rw [rounds_succ]
    go_wp2_with fail
    generalize ((((w.alloc (.cells #[txt a, txt b, txt c, txt d] 95)).alloc (.cells #[.string ⟨#[]⟩, .string ⟨#[]⟩] 24)).alloc (.cells #[.string ⟨#[]⟩, .string ⟨#[]⟩] 93)).alloc (.cells #[txt a, txt b] 93)) = w4 at X O EV ⊢
    refine (H1.out _ EV).mono ?_
    rintro e w5 ⟨rfl, hE⟩
    have X5 := X.ext hE
    have O5 := O.ext hE
    have E := EV.trans hE
    clear X O EV hE
    obtain ⟨d0, d1, g0, g1⟩ := X5
    obtain ⟨y0, y1, p0, p1⟩ := O5
    go_wp2_with fail
    refine bodyPost_ret (v := .tuple #[.agg #[txt [], txt []], .int .i64 (r2 : Nat)]) (by rw [results_cell_tmp1 rfl]; go_simp) rfl ?_
    exact ⟨by first | (rw [HR.out]; done) | (rw [HR.out]; rfl), extA⟩
  subst hr
  have hne0 : (((0 : Nat) : Int) != 0) = false := rfl
  by_cases hs : s2 = 0
  rotate_left
  · have HR : Hid (C = (([], []), s2)) := by show _ = _; rw [hC]; exact ends_bad2 rfl hs
    have hne : ((s2 : Int) != 0) = true := by rw [bne_iff_ne]; omega
    clear hs hC
    have X : EncAt (w.heap.size + 1) ((((w.alloc (.cells #[txt a, txt b, txt c, txt d] 95)).alloc (.cells #[.string ⟨#[]⟩, .string ⟨#[]⟩] 24)).alloc (.cells #[.string ⟨#[]⟩, .string ⟨#[]⟩] 93)).alloc (.cells #[txt a, txt b] 93)) [] [] := ⟨by go_simp, by go_simp, by go_simp, by go_simp⟩
    have O : EncAt (w.heap.size + 1 + 1) ((((w.alloc (.cells #[txt a, txt b, txt c, txt d] 95)).alloc (.cells #[.string ⟨#[]⟩, .string ⟨#[]⟩] 24)).alloc (.cells #[.string ⟨#[]⟩, .string ⟨#[]⟩] 93)).alloc (.cells #[txt a, txt b] 93)) [] [] := ⟨by go_simp, by go_simp, by go_simp, by go_simp⟩
    have EV : Ext w ((((w.alloc (.cells #[txt a, txt b, txt c, txt d] 95)).alloc (.cells #[.string ⟨#[]⟩, .string ⟨#[]⟩] 24)).alloc (.cells #[.string ⟨#[]⟩, .string ⟨#[]⟩] 93)).alloc (.cells #[txt a, txt b] 93)) := extA
    go_enter Tryz.func71, Tryz.ntmps71
    go_wp2
    refine wp_loop_rounds 3 ?_
    rw [rounds_succ]
    go_wp2_with fail
    generalize ((((w.alloc (.cells #[txt a, txt b, txt c, txt d] 95)).alloc (.cells #[.string ⟨#[]⟩, .string ⟨#[]⟩] 24)).alloc (.cells #[.string ⟨#[]⟩, .string ⟨#[]⟩] 93)).alloc (.cells #[txt a, txt b] 93)) = w4 at X O EV ⊢
    refine (H1.out _ EV).mono ?_
    rintro e w5 ⟨rfl, hE⟩
    have X5 := X.ext hE
    have O5 := O.ext hE
    have E := EV.trans hE
    clear X O EV hE
    obtain ⟨d0, d1, g0, g1⟩ := X5
    obtain ⟨y0, y1, p0, p1⟩ := O5
    have x0 := d0
    have x1 := d1
    have x2 := g0
    have x3 := g1
    have z0 := y0
    have z1 := y1
    have z2 := p0
    have z3 := p1
    go_wp2_with fail
    rw [rounds_succ]
    go_wp2_with fail
    clear d0 d1 g0 g1 y0 y1 p0 p1
    have X6 := (EncAt.mk x0 x1 x2 x3).other (c := w.heap.size + 1 + 1) (o := 0) (v := txt r1) (by omega)
    have O6 := (EncAt.mk z0 z1 z2 z3).set0 r1
    have E6 : Ext w (w5.setCell ⟨w.heap.size + 1 + 1, 0, none⟩ (txt r1)) := E.set (by omega) _
    have hA : Ext (w5.setCell ⟨w.heap.size + 1 + 1, 0, none⟩ (txt r1)) ((w5.setCell ⟨w.heap.size + 1 + 1, 0, none⟩ (txt r1)).alloc (.cells #[txt c, txt d] 93)) := extA
    have X7 := X6.ext hA
    have O7 := O6.ext hA
    have E7 := E6.trans hA
    generalize ((w5.setCell ⟨w.heap.size + 1 + 1, 0, none⟩ (txt r1)).alloc (.cells #[txt c, txt d] 93)) = w6 at X7 O7 E7 ⊢
    clear hA X6 O6 E6 E
    refine (H2.out _ E7).mono ?_
    rintro e w7 ⟨rfl, hE⟩
    have E := E7.trans hE
    obtain ⟨d0, d1, g0, g1⟩ := X7.ext hE
    obtain ⟨y0, y1, p0, p1⟩ := O7.ext hE
    clear X7 O7 E7 hE
    go_wp2_with fail
    refine bodyPost_ret (v := .tuple #[.agg #[txt [], txt []], .int .i64 (s2 : Nat)]) (by rw [results_cell_tmp1 rfl]; go_simp) rfl ?_
    exact ⟨by first | (rw [HR.out]; done) | (rw [HR.out]; rfl), extA⟩
  subst hs
  have HR : Hid (C = ((r1, s1), 0)) := by show _ = _; rw [hC]; exact ends_good rfl rfl
  clear hC
  have X : EncAt (w.heap.size + 1) ((((w.alloc (.cells #[txt a, txt b, txt c, txt d] 95)).alloc (.cells #[.string ⟨#[]⟩, .string ⟨#[]⟩] 24)).alloc (.cells #[.string ⟨#[]⟩, .string ⟨#[]⟩] 93)).alloc (.cells #[txt a, txt b] 93)) [] [] := ⟨by go_simp, by go_simp, by go_simp, by go_simp⟩
  have O : EncAt (w.heap.size + 1 + 1) ((((w.alloc (.cells #[txt a, txt b, txt c, txt d] 95)).alloc (.cells #[.string ⟨#[]⟩, .string ⟨#[]⟩] 24)).alloc (.cells #[.string ⟨#[]⟩, .string ⟨#[]⟩] 93)).alloc (.cells #[txt a, txt b] 93)) [] [] := ⟨by go_simp, by go_simp, by go_simp, by go_simp⟩
  have EV : Ext w ((((w.alloc (.cells #[txt a, txt b, txt c, txt d] 95)).alloc (.cells #[.string ⟨#[]⟩, .string ⟨#[]⟩] 24)).alloc (.cells #[.string ⟨#[]⟩, .string ⟨#[]⟩] 93)).alloc (.cells #[txt a, txt b] 93)) := extA
  go_enter Tryz.func71, Tryz.ntmps71
  go_wp2
  refine wp_loop_rounds 3 ?_
  rw [rounds_succ]
  go_wp2_with fail
  generalize ((((w.alloc (.cells #[txt a, txt b, txt c, txt d] 95)).alloc (.cells #[.string ⟨#[]⟩, .string ⟨#[]⟩] 24)).alloc (.cells #[.string ⟨#[]⟩, .string ⟨#[]⟩] 93)).alloc (.cells #[txt a, txt b] 93)) = w4 at X O EV ⊢
  refine (H1.out _ EV).mono ?_
  rintro e w5 ⟨rfl, hE⟩
  have X5 := X.ext hE
  have O5 := O.ext hE
  have E := EV.trans hE
  clear X O EV hE
  obtain ⟨d0, d1, g0, g1⟩ := X5
  obtain ⟨y0, y1, p0, p1⟩ := O5
  have x0 := d0
  have x1 := d1
  have x2 := g0
  have x3 := g1
  have z0 := y0
  have z1 := y1
  have z2 := p0
  have z3 := p1
  go_wp2_with fail
  rw [rounds_succ]
  go_wp2_with fail
  clear d0 d1 g0 g1 y0 y1 p0 p1
  have X6 := (EncAt.mk x0 x1 x2 x3).other (c := w.heap.size + 1 + 1) (o := 0) (v := txt r1) (by omega)
  have O6 := (EncAt.mk z0 z1 z2 z3).set0 r1
  have E6 : Ext w (w5.setCell ⟨w.heap.size + 1 + 1, 0, none⟩ (txt r1)) := E.set (by omega) _
  have hA : Ext (w5.setCell ⟨w.heap.size + 1 + 1, 0, none⟩ (txt r1)) ((w5.setCell ⟨w.heap.size + 1 + 1, 0, none⟩ (txt r1)).alloc (.cells #[txt c, txt d] 93)) := extA
  have X7 := X6.ext hA
  have O7 := O6.ext hA
  have E7 := E6.trans hA
  generalize ((w5.setCell ⟨w.heap.size + 1 + 1, 0, none⟩ (txt r1)).alloc (.cells #[txt c, txt d] 93)) = w6 at X7 O7 E7 ⊢
  clear hA X6 O6 E6 E
  refine (H2.out _ E7).mono ?_
  rintro e w7 ⟨rfl, hE⟩
  have E := E7.trans hE
  obtain ⟨d0, d1, g0, g1⟩ := X7.ext hE
  obtain ⟨y0, y1, p0, p1⟩ := O7.ext hE
  clear X7 O7 E7 hE
  go_wp2_with fail
  rw [rounds_succ]
  go_wp2_with fail
  refine bodyPost_ret (v := .tuple #[.agg #[txt r1, txt s1], .int .i64 0]) (by rw [results_cell_tmp1 rfl]; go_simp) rfl ?_
  exact ⟨by first | (rw [HR.out]; done) | (rw [HR.out]; rfl), extA⟩
end Go.Proofs.YtdejgaiocjfhjaaGreatDoor
