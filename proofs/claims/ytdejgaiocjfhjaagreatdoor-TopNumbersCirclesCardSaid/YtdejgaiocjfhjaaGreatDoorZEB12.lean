/- Steps of the proof: EExtP, EExt, EMul, ELAwk, FLMak, EGiv, EOpen, EJoin, EBase. No conditions. -/
import Derived.Test.YtdejgaiocjfhjaaGreatDoorCards
import Derived.Test.YtdejgaiocjfhjaaGreatDoorTie
import Derived.WalkKit
import Derived.ProofKit
import Derived.OpenShut
import Derived.Deep.DeepHandedRow
import Derived.Lib.LaidTab
import Derived.LaidSub
import Derived.Stop.LaidErr
import Derived.MakeChecks
import Derived.Lib.SmallJoins
import Derived.Deep.Slices
import Derived.Test.YtdejgaiocjfhjaaGreatDoorZEB1
import Derived.Test.YtdejgaiocjfhjaaGreatDoorZEB2
import Derived.Test.YtdejgaiocjfhjaaGreatDoorZEB3
import Derived.Test.YtdejgaiocjfhjaaGreatDoorZEB4
import Derived.Test.YtdejgaiocjfhjaaGreatDoorZEB5
import Derived.Test.YtdejgaiocjfhjaaGreatDoorZEB6
import Derived.Test.YtdejgaiocjfhjaaGreatDoorZEB7
import Derived.Test.YtdejgaiocjfhjaaGreatDoorZEB8
import Derived.Test.YtdejgaiocjfhjaaGreatDoorZEB9
import Derived.Test.YtdejgaiocjfhjaaGreatDoorZEB10
import Derived.Test.YtdejgaiocjfhjaaGreatDoorZEB11
namespace Go.Proofs.YtdejgaiocjfhjaaGreatDoor
open Go.Lib (decDigits)
theorem greater_is {x0 x1 y0 y1 : Txt} (r1 : fracE x0 = 0) (r2 : fracE x1 = 0) (r3 : fracE y0 = 0) (r4 : fracE y1 = 0) :
    greaterE (x0, x1) (y0, y1) = decide (absQ (fracQ y0) * absQ (fracQ y1) < absQ (fracQ x0) * absQ (fracQ x1)) := by
  obtain ⟨_, _, n0, d0⟩ := right_parts r1
  obtain ⟨_, _, n1, d1⟩ := right_parts r2
  obtain ⟨_, _, n2, d2⟩ := right_parts r3
  obtain ⟨_, _, n3, d3⟩ := right_parts r4
  have h := abs_less (fracQ x0) (fracQ x1) (fracQ y0) (fracQ y1)
  rw [← n0, ← n1, ← n2, ← n3, ← d0, ← d1, ← d2, ← d3] at h
  unfold greaterE
  dsimp only
  rw [prodV_four, prodV_four]
  unfold absN absD at h
  simp only [h]
def extremesE (a b : Enc) : Enc × Enc :=
  if negS b.1 = false then ((a.1, if negS a.1 then b.2 else b.1), (a.2, if negS a.2 then b.1 else b.2))
  else if (negS b.2 || b.2 == [48]) = true then ((a.2, if negS a.2 then b.2 else b.1), (a.1, if negS a.1 then b.1 else b.2))
  else if negS a.1 = false then ((a.2, b.1), (a.2, b.2))
  else if (negS a.2 || a.2 == [48]) = true then ((a.1, b.2), (a.1, b.1))
  else (if greaterE (a.2, b.1) (a.1, b.2) then (a.2, b.1) else (a.1, b.2), if greaterE (a.2, b.2) (a.1, b.1) then (a.2, b.2) else (a.1, b.1))
structure ExtR (a b : Enc) (p : Enc × Enc) : Prop where
  lo : fracQ p.1.1 * fracQ p.1.2 = prodLo a b
  hi : fracQ p.2.1 * fracQ p.2.2 = prodHi a b
  l : RightP p.1
  h : RightP p.2
theorem pick_q {c : Prop} [Decidable c] (x y : Txt) : fracQ (if c then x else y) = if c then fracQ x else fracQ y := by split <;> rfl
theorem pick_e {c : Prop} [Decidable c] {x y : Txt} (hx : fracE x = 0) (hy : fracE y = 0) : fracE (if c then x else y) = 0 := by split <;> assumption
theorem extremes_is {a b : Enc} (ha : encE a = 0) (hb : encE b = 0) : ExtR a b (extremesE a b) := by
  obtain ⟨a1, a2, _⟩ := enc_right ha
  obtain ⟨b1, b2, _⟩ := enc_right hb
  have hal := enc_le ha
  have hbl := enc_le hb
  unfold extremesE
  simp only [negS_right a1, negS_right a2, negS_right b1, negS_right b2, zero_right b2, zero_right a2, decide_eq_true_eq, decide_eq_false_iff_not, Bool.or_eq_true]
  by_cases h1 : fracQ b.1 < 0
  · rw [if_neg (not_not_intro h1)]
    by_cases h2 : fracQ b.2 < 0 ∨ fracQ b.2 = 0
    · rw [if_pos h2]
      obtain ⟨k1, k2⟩ := ends2 hal hbl (show fracQ b.2 ≤ 0 by grind)
      exact ⟨by unfold prodLo; rw [k1, pick_q], by unfold prodHi; rw [k2, pick_q], ⟨a2, pick_e b2 b1⟩, ⟨a1, pick_e b1 b2⟩⟩
    · rw [if_neg h2]
      by_cases h3 : fracQ a.1 < 0
      · rw [if_neg (not_not_intro h3)]
        by_cases h4 : fracQ a.2 < 0 ∨ fracQ a.2 = 0
        · rw [if_pos h4]
          obtain ⟨k1, k2⟩ := ends4 hal hbl (show fracQ b.1 ≤ 0 by grind) (show 0 ≤ fracQ b.2 by grind) (show fracQ a.2 ≤ 0 by grind)
          exact ⟨by unfold prodLo; rw [k1], by unfold prodHi; rw [k2], ⟨a1, b2⟩, ⟨a1, b1⟩⟩
        · rw [if_neg h4]
          obtain ⟨k1, k2⟩ := ends5 (a := fracQ a.1) (A := fracQ a.2) (show fracQ b.1 ≤ 0 by grind) (show 0 ≤ fracQ b.2 by grind) (show fracQ a.1 ≤ 0 by grind) (show 0 ≤ fracQ a.2 by grind)
          rw [greater_is a2 b1 a1 b2, greater_is a2 b2 a1 b1]
          have e1 : absQ (fracQ a.1) = -fracQ a.1 := if_pos h3
          have e2 : absQ (fracQ a.2) = fracQ a.2 := if_neg (by grind)
          have e3 : absQ (fracQ b.1) = -fracQ b.1 := if_pos h1
          have e4 : absQ (fracQ b.2) = fracQ b.2 := if_neg (by grind)
          rw [e1, e2, e3, e4]
          simp only [decide_eq_true_eq]
          have c1 : -fracQ a.1 * fracQ b.2 < fracQ a.2 * -fracQ b.1 ↔ fracQ a.2 * fracQ b.1 < fracQ a.1 * fracQ b.2 := by constructor <;> intro <;> grind
          have c2 : -fracQ a.1 * -fracQ b.1 < fracQ a.2 * fracQ b.2 ↔ fracQ a.1 * fracQ b.1 < fracQ a.2 * fracQ b.2 := by constructor <;> intro <;> grind
          simp only [c1, c2]
          refine ⟨?_, ?_, ?_, ?_⟩
          · unfold prodLo; rw [k1]; by_cases z : fracQ a.2 * fracQ b.1 < fracQ a.1 * fracQ b.2 <;> simp only [z, if_true, if_false]
          · unfold prodHi; rw [k2]; by_cases z : fracQ a.1 * fracQ b.1 < fracQ a.2 * fracQ b.2 <;> simp only [z, if_true, if_false]
          · dsimp only; split
            · exact ⟨a2, b1⟩
            · exact ⟨a1, b2⟩
          · dsimp only; split
            · exact ⟨a2, b2⟩
            · exact ⟨a1, b1⟩
      · rw [if_pos h3]
        obtain ⟨k1, k2⟩ := ends3 hal hbl (show fracQ b.1 ≤ 0 by grind) (show 0 ≤ fracQ b.2 by grind) (show 0 ≤ fracQ a.1 by grind)
        exact ⟨by unfold prodLo; rw [k1], by unfold prodHi; rw [k2], ⟨a2, b1⟩, ⟨a2, b2⟩⟩
  · rw [if_pos h1]
    obtain ⟨k1, k2⟩ := ends1 hal hbl (show 0 ≤ fracQ b.1 by grind)
    exact ⟨by unfold prodLo; rw [k1, pick_q], by unfold prodHi; rw [k2, pick_q], ⟨a1, pick_e b2 b1⟩, ⟨a2, pick_e b1 b2⟩⟩
end Go.Proofs.YtdejgaiocjfhjaaGreatDoor
namespace Go.Proofs.YtdejgaiocjfhjaaGreatDoor
open Go.RowKit
theorem eChoose_any (m : Bool) (x y : Txt) (w : World) : Calls Tryz.prog 119 #[.bool m, txt x, txt y] w fun e w' => e = .returned (txt (if m then x else y)) ∧ w' = w := by
  cases m
  · go_enter Tryz.func119, Tryz.ntmps119
    go_wp2
    go_ret
    exact ⟨rfl, rfl⟩
  · go_enter Tryz.func119, Tryz.ntmps119
    go_wp2
    go_ret
    exact ⟨rfl, rfl⟩
def pairsV (p : Enc × Enc) : Value := .agg #[txt p.1.1, txt p.1.2, txt p.2.1, txt p.2.2]
set_option maxHeartbeats 16000000 in
set_option maxRecDepth 100000 in
theorem eExtremes_any (a b : Enc) (w : World) (hG : Glob w) (hl : LenE a) (hm : LenE b) (ha : encE a = 0) (hb : encE b = 0) :
    Calls Tryz.prog 82 #[encV a, encV b] w fun e w' => e = .returned (pairsV (extremesE a b)) ∧ Ext w w' := by
  obtain ⟨a1, a2, _⟩ := enc_right ha
  obtain ⟨b1, b2, _⟩ := enc_right hb
  have G1 := Lib.hid (fun W (e : Ext w W) => eGreater_any a.2 b.1 a.1 b.2 W (hG.ext e) hl.2 hm.1 hl.1 hm.2 a2 b1 a1 b2)
  have G2 := Lib.hid (fun W (e : Ext w W) => eGreater_any a.2 b.2 a.1 b.1 W (hG.ext e) hl.2 hm.2 hl.1 hm.1 a2 b2 a1 b1)
  clear hG hl hm ha hb a1 a2 b1 b2
  obtain ⟨C, hC⟩ : ∃ C, C = extremesE a b := ⟨_, rfl⟩
  rw [← hC]
  unfold extremesE at hC
  obtain ⟨l, h⟩ := a
  obtain ⟨m, k⟩ := b
  dsimp only [encV] at *
  have HB1 := Lib.hid (fun W => eBelow_any m W)
  have HB2 := Lib.hid (fun W => eBelow_any k W)
  have HA1 := Lib.hid (fun W => eBelow_any l W)
  have HA2 := Lib.hid (fun W => eBelow_any h W)
  generalize negS l = nl at *
  generalize negS h = nh at *
  generalize negS m = nm at *
  generalize negS k = nk at *
  obtain ⟨zk, hzk⟩ : ∃ z, z = (k == [48]) := ⟨_, rfl⟩
  obtain ⟨zh, hzh⟩ : ∃ z, z = (h == [48]) := ⟨_, rfl⟩
  rw [← hzk, ← hzh] at hC
  have HC := Lib.hid hC
  clear hC
  have zk1 := hzk.symm
  have zh1 := hzh.symm
  clear hzk hzh
  have c0 : (((w.alloc (.cells #[txt l, txt h] 24)).alloc (.cells #[txt m, txt k] 24)).alloc (.cells #[.string ⟨#[]⟩, .string ⟨#[]⟩, .string ⟨#[]⟩, .string ⟨#[]⟩] 95)).cell? ⟨w.heap.size, 0, none⟩ = some (txt l) := by go_simp
  have c1 : (((w.alloc (.cells #[txt l, txt h] 24)).alloc (.cells #[txt m, txt k] 24)).alloc (.cells #[.string ⟨#[]⟩, .string ⟨#[]⟩, .string ⟨#[]⟩, .string ⟨#[]⟩] 95)).cell? ⟨w.heap.size, 1, none⟩ = some (txt h) := by go_simp
  have c2 : (((w.alloc (.cells #[txt l, txt h] 24)).alloc (.cells #[txt m, txt k] 24)).alloc (.cells #[.string ⟨#[]⟩, .string ⟨#[]⟩, .string ⟨#[]⟩, .string ⟨#[]⟩] 95)).cell? ⟨w.heap.size + 1, 0, none⟩ = some (txt m) := by go_simp
  have c3 : (((w.alloc (.cells #[txt l, txt h] 24)).alloc (.cells #[txt m, txt k] 24)).alloc (.cells #[.string ⟨#[]⟩, .string ⟨#[]⟩, .string ⟨#[]⟩, .string ⟨#[]⟩] 95)).cell? ⟨w.heap.size + 1, 1, none⟩ = some (txt k) := by go_simp
  have X : FourAt (w.heap.size + 1 + 1) (((w.alloc (.cells #[txt l, txt h] 24)).alloc (.cells #[txt m, txt k] 24)).alloc (.cells #[.string ⟨#[]⟩, .string ⟨#[]⟩, .string ⟨#[]⟩, .string ⟨#[]⟩] 95)) [] [] [] [] := ⟨by go_simp, by go_simp, by go_simp, by go_simp, by go_simp, by go_simp, by go_simp, by go_simp⟩
  have E : Ext w (((w.alloc (.cells #[txt l, txt h] 24)).alloc (.cells #[txt m, txt k] 24)).alloc (.cells #[.string ⟨#[]⟩, .string ⟨#[]⟩, .string ⟨#[]⟩, .string ⟨#[]⟩] 95)) := extA
  go_enter Tryz.func82, Tryz.ntmps82
  go_wp2_with fail
  generalize (((w.alloc (.cells #[txt l, txt h] 24)).alloc (.cells #[txt m, txt k] 24)).alloc (.cells #[.string ⟨#[]⟩, .string ⟨#[]⟩, .string ⟨#[]⟩, .string ⟨#[]⟩] 95)) = w0 at c0 c1 c2 c3 X E ⊢
  refine (HB1.out _).mono ?_
  rintro e w' ⟨rfl, hw⟩; obtain rfl := hw.symm; clear hw
  have zX := cell_lt X.c0
  have z0 := cell_lt c0
  have z2 := cell_lt c2
  dsimp only at zX z0 z2
  clear HB1
  cases nm
  · have HR : Hid (C = ((l, if nl then k else m), (h, if nh then m else k))) := HC.out
    clear HC HB2 G1 G2 zk1 zh1
    go_wp2_with fail
    have K1 := Lib.hid (fun W => eChoose_any nl k m W)
    have K2 := Lib.hid (fun W => eChoose_any nh m k W)
    obtain ⟨r2, hr2⟩ : ∃ r, r = (if nl = true then k else m) := ⟨_, rfl⟩
    obtain ⟨r4, hr4⟩ : ∃ r, r = (if nh = true then m else k) := ⟨_, rfl⟩
    rw [← hr2] at HR K1
    rw [← hr4] at HR K2
    clear hr2 hr4
    have hD : Ext w0 w0.drew := extA
    replace X := X.ext hD
    replace E := E.trans hD
    have hS : w0.drew.cell? ⟨w.heap.size, 0, none⟩ = some (txt l) ∧ w0.drew.cell? ⟨w.heap.size, 1, none⟩ = some (txt h) ∧ w0.drew.cell? ⟨w.heap.size + 1, 0, none⟩ = some (txt m) ∧ w0.drew.cell? ⟨w.heap.size + 1, 1, none⟩ = some (txt k) := ⟨hD.cell c0, hD.cell c1, hD.cell c2, hD.cell c3⟩
    refine wp_region_heldE 99 (fun w' => w'.cell? ⟨w.heap.size, 0, none⟩ = some (txt l) ∧ w'.cell? ⟨w.heap.size, 1, none⟩ = some (txt h) ∧ w'.cell? ⟨w.heap.size + 1, 0, none⟩ = some (txt m) ∧ w'.cell? ⟨w.heap.size + 1, 1, none⟩ = some (txt k)) (by kernel_rfl) ?_
    clear c0 c1 c2 c3 hD zX z0 z2
    generalize w0.drew = w1 at X E hS ⊢
    have zX := cell_lt X.c0
    dsimp only at zX
    ((refine eTk 0 ?_); (refine eTk 1 ?_); (refine eTk 2 ?_); (refine eTk 3 ?_); (refine eTk 4 ?_); (refine eTk 6 ?_); (refine eTk 7 ?_); (refine eTk 8 ?_); (refine eTk 9 ?_); (refine eTk 12 ?_); (refine eTk 13 ?_); (refine eTk 14 ?_); (refine eTk 15 ?_); (refine eTk 16 ?_); (refine eTk 18 ?_); (refine eTk 19 ?_); (refine eTk 20 ?_); (refine eTk 21 ?_))
    (refine wpAnyE_one (i := 5) (o := ?_) ?_ (by kernel_rfl) (fun K hK => ?_); rotate_left; (focus ((simp only [List.getElem?_toArray, List.getElem?_cons_succ, List.getElem?_cons_zero]; exact rfl))); go_simp; go_at_call 112; refine (HA1.out _).mono ?_; rintro e w' ⟨rfl, rfl⟩; go_wp2_with fail; refine hK.out _ _ ?_ (fun hHeld => ?_); rotate_left; clear hK K; (try simp only [Act.put, List.setIfInBounds_toArray, List.set_cons_zero, List.set_cons_succ]))
    rotate_left
    · exact hS
    clear hHeld
    (refine wpAnyE_one (i := 10) (o := ?_) ?_ (by kernel_rfl) (fun K hK => ?_); rotate_left; (focus ((simp only [List.getElem?_toArray, List.getElem?_cons_succ, List.getElem?_cons_zero]; exact rfl))); go_simp; go_at_call 119; refine (K1.out _).mono ?_; rintro e w' ⟨rfl, rfl⟩; go_wp2_with fail; refine hK.out _ _ ?_ (fun hHeld => ?_); rotate_left; clear hK K; (try simp only [Act.put, List.setIfInBounds_toArray, List.set_cons_zero, List.set_cons_succ]))
    rotate_left
    · exact hS
    clear hHeld
    ((refine eTk 11 ?_))
    (refine wpAnyE_one (i := 17) (o := ?_) ?_ (by kernel_rfl) (fun K hK => ?_); rotate_left; (focus ((simp only [List.getElem?_toArray, List.getElem?_cons_succ, List.getElem?_cons_zero]; exact rfl))); go_simp; go_at_call 112; refine (HA2.out _).mono ?_; rintro e w' ⟨rfl, rfl⟩; go_wp2_with fail; refine hK.out _ _ ?_ (fun hHeld => ?_); rotate_left; clear hK K; (try simp only [Act.put, List.setIfInBounds_toArray, List.set_cons_zero, List.set_cons_succ]))
    rotate_left
    · exact hS
    clear hHeld
    (refine wpAnyE_one (i := 22) (o := ?_) ?_ (by kernel_rfl) (fun K hK => ?_); rotate_left; (focus ((simp only [List.getElem?_toArray, List.getElem?_cons_succ, List.getElem?_cons_zero]; exact rfl))); go_simp; go_at_call 119; refine (K2.out _).mono ?_; rintro e w' ⟨rfl, rfl⟩; go_wp2_with fail; refine hK.out _ _ ?_ (fun hHeld => ?_); rotate_left; clear hK K; (try simp only [Act.put, List.setIfInBounds_toArray, List.set_cons_zero, List.set_cons_succ]))
    rotate_left
    · exact hS
    clear hHeld
    ((refine eTk 23 ?_); (refine eTk 24 ?_))
    obtain ⟨c0, c1, c2, c3⟩ := hS
    obtain ⟨x0, x1, x2, x3, f0, f1, f2, f3⟩ := X
    (refine wpAnyE_one (i := 25) (o := ?_) ?_ (by kernel_rfl) (fun K hK => ?_); rotate_left; (focus ((simp only [List.getElem?_toArray, List.getElem?_cons_succ, List.getElem?_cons_zero]; exact rfl))); go_simp; refine hK.out _ _ ?_ (fun hHeld => ?_); rotate_left; clear hK K; (try simp only [Act.put, List.setIfInBounds_toArray, List.set_cons_zero, List.set_cons_succ]))
    rotate_left
    · exact ⟨by go_simp, by go_simp, by go_simp, by go_simp⟩
    clear hHeld c0 c1 c2 c3
    refine wpAnyE_done (by kernel_rfl) ?_ _
    go_wp2_with fail
    refine bodyPost_ret (v := .agg #[txt l, txt r2, txt h, txt r4]) (by rw [results_cell1 rfl]; go_simp) rfl ?_
    exact ⟨by rw [HR.out]; rfl, extA⟩
  · go_wp2_with fail
    refine (HB2.out _).mono ?_
    rintro e w' ⟨rfl, hw⟩; obtain rfl := hw.symm; clear hw
    clear HB2
    cases nk
    rotate_left
    · have HR : Hid (C = ((h, if nh then k else m), (l, if nl then m else k))) := HC.out
      clear HC G1 G2 zk1 zh1
      go_wp2_with fail
      have K1 := Lib.hid (fun W => eChoose_any nh k m W)
      have K2 := Lib.hid (fun W => eChoose_any nl m k W)
      obtain ⟨r2, hr2⟩ : ∃ r, r = (if nh = true then k else m) := ⟨_, rfl⟩
      obtain ⟨r4, hr4⟩ : ∃ r, r = (if nl = true then m else k) := ⟨_, rfl⟩
      rw [← hr2] at HR K1
      rw [← hr4] at HR K2
      clear hr2 hr4
      have hD : Ext w0 w0.drew := extA
      replace X := X.ext hD
      replace E := E.trans hD
      have hS : w0.drew.cell? ⟨w.heap.size, 0, none⟩ = some (txt l) ∧ w0.drew.cell? ⟨w.heap.size, 1, none⟩ = some (txt h) ∧ w0.drew.cell? ⟨w.heap.size + 1, 0, none⟩ = some (txt m) ∧ w0.drew.cell? ⟨w.heap.size + 1, 1, none⟩ = some (txt k) := ⟨hD.cell c0, hD.cell c1, hD.cell c2, hD.cell c3⟩
      refine wp_region_heldE 99 (fun w' => w'.cell? ⟨w.heap.size, 0, none⟩ = some (txt l) ∧ w'.cell? ⟨w.heap.size, 1, none⟩ = some (txt h) ∧ w'.cell? ⟨w.heap.size + 1, 0, none⟩ = some (txt m) ∧ w'.cell? ⟨w.heap.size + 1, 1, none⟩ = some (txt k)) (by kernel_rfl) ?_
      clear c0 c1 c2 c3 hD zX z0 z2
      generalize w0.drew = w1 at X E hS ⊢
      have zX := cell_lt X.c0
      dsimp only at zX
      ((refine eTk 0 ?_); (refine eTk 1 ?_); (refine eTk 2 ?_); (refine eTk 3 ?_); (refine eTk 4 ?_); (refine eTk 6 ?_); (refine eTk 7 ?_); (refine eTk 8 ?_); (refine eTk 9 ?_); (refine eTk 12 ?_); (refine eTk 13 ?_); (refine eTk 14 ?_); (refine eTk 15 ?_); (refine eTk 16 ?_); (refine eTk 18 ?_); (refine eTk 19 ?_); (refine eTk 20 ?_); (refine eTk 21 ?_))
      (refine wpAnyE_one (i := 5) (o := ?_) ?_ (by kernel_rfl) (fun K hK => ?_); rotate_left; (focus ((simp only [List.getElem?_toArray, List.getElem?_cons_succ, List.getElem?_cons_zero]; exact rfl))); go_simp; go_at_call 112; refine (HA2.out _).mono ?_; rintro e w' ⟨rfl, rfl⟩; go_wp2_with fail; refine hK.out _ _ ?_ (fun hHeld => ?_); rotate_left; clear hK K; (try simp only [Act.put, List.setIfInBounds_toArray, List.set_cons_zero, List.set_cons_succ]))
      rotate_left
      · exact hS
      clear hHeld
      (refine wpAnyE_one (i := 10) (o := ?_) ?_ (by kernel_rfl) (fun K hK => ?_); rotate_left; (focus ((simp only [List.getElem?_toArray, List.getElem?_cons_succ, List.getElem?_cons_zero]; exact rfl))); go_simp; go_at_call 119; refine (K1.out _).mono ?_; rintro e w' ⟨rfl, rfl⟩; go_wp2_with fail; refine hK.out _ _ ?_ (fun hHeld => ?_); rotate_left; clear hK K; (try simp only [Act.put, List.setIfInBounds_toArray, List.set_cons_zero, List.set_cons_succ]))
      rotate_left
      · exact hS
      clear hHeld
      ((refine eTk 11 ?_))
      (refine wpAnyE_one (i := 17) (o := ?_) ?_ (by kernel_rfl) (fun K hK => ?_); rotate_left; (focus ((simp only [List.getElem?_toArray, List.getElem?_cons_succ, List.getElem?_cons_zero]; exact rfl))); go_simp; go_at_call 112; refine (HA1.out _).mono ?_; rintro e w' ⟨rfl, rfl⟩; go_wp2_with fail; refine hK.out _ _ ?_ (fun hHeld => ?_); rotate_left; clear hK K; (try simp only [Act.put, List.setIfInBounds_toArray, List.set_cons_zero, List.set_cons_succ]))
      rotate_left
      · exact hS
      clear hHeld
      (refine wpAnyE_one (i := 22) (o := ?_) ?_ (by kernel_rfl) (fun K hK => ?_); rotate_left; (focus ((simp only [List.getElem?_toArray, List.getElem?_cons_succ, List.getElem?_cons_zero]; exact rfl))); go_simp; go_at_call 119; refine (K2.out _).mono ?_; rintro e w' ⟨rfl, rfl⟩; go_wp2_with fail; refine hK.out _ _ ?_ (fun hHeld => ?_); rotate_left; clear hK K; (try simp only [Act.put, List.setIfInBounds_toArray, List.set_cons_zero, List.set_cons_succ]))
      rotate_left
      · exact hS
      clear hHeld
      ((refine eTk 23 ?_); (refine eTk 24 ?_))
      obtain ⟨c0, c1, c2, c3⟩ := hS
      obtain ⟨x0, x1, x2, x3, f0, f1, f2, f3⟩ := X
      (refine wpAnyE_one (i := 25) (o := ?_) ?_ (by kernel_rfl) (fun K hK => ?_); rotate_left; (focus ((simp only [List.getElem?_toArray, List.getElem?_cons_succ, List.getElem?_cons_zero]; exact rfl))); go_simp; refine hK.out _ _ ?_ (fun hHeld => ?_); rotate_left; clear hK K; (try simp only [Act.put, List.setIfInBounds_toArray, List.set_cons_zero, List.set_cons_succ]))
      rotate_left
      · exact ⟨by go_simp, by go_simp, by go_simp, by go_simp⟩
      clear hHeld c0 c1 c2 c3
      refine wpAnyE_done (by kernel_rfl) ?_ _
      go_wp2_with fail
      refine bodyPost_ret (v := .agg #[txt h, txt r2, txt l, txt r4]) (by rw [results_cell1 rfl]; go_simp) rfl ?_
      exact ⟨by rw [HR.out]; rfl, extA⟩
    · cases zk
      rotate_left
      · have HR : Hid (C = ((h, if nh then k else m), (l, if nl then m else k))) := HC.out
        clear HC G1 G2 zh1
        go_wp2_with fail
        have K1 := Lib.hid (fun W => eChoose_any nh k m W)
        have K2 := Lib.hid (fun W => eChoose_any nl m k W)
        obtain ⟨r2, hr2⟩ : ∃ r, r = (if nh = true then k else m) := ⟨_, rfl⟩
        obtain ⟨r4, hr4⟩ : ∃ r, r = (if nl = true then m else k) := ⟨_, rfl⟩
        rw [← hr2] at HR K1
        rw [← hr4] at HR K2
        clear hr2 hr4
        have hD : Ext w0 w0.drew := extA
        replace X := X.ext hD
        replace E := E.trans hD
        have hS : w0.drew.cell? ⟨w.heap.size, 0, none⟩ = some (txt l) ∧ w0.drew.cell? ⟨w.heap.size, 1, none⟩ = some (txt h) ∧ w0.drew.cell? ⟨w.heap.size + 1, 0, none⟩ = some (txt m) ∧ w0.drew.cell? ⟨w.heap.size + 1, 1, none⟩ = some (txt k) := ⟨hD.cell c0, hD.cell c1, hD.cell c2, hD.cell c3⟩
        refine wp_region_heldE 99 (fun w' => w'.cell? ⟨w.heap.size, 0, none⟩ = some (txt l) ∧ w'.cell? ⟨w.heap.size, 1, none⟩ = some (txt h) ∧ w'.cell? ⟨w.heap.size + 1, 0, none⟩ = some (txt m) ∧ w'.cell? ⟨w.heap.size + 1, 1, none⟩ = some (txt k)) (by kernel_rfl) ?_
        clear c0 c1 c2 c3 hD zX z0 z2
        generalize w0.drew = w1 at X E hS ⊢
        have zX := cell_lt X.c0
        dsimp only at zX
        ((refine eTk 0 ?_); (refine eTk 1 ?_); (refine eTk 2 ?_); (refine eTk 3 ?_); (refine eTk 4 ?_); (refine eTk 6 ?_); (refine eTk 7 ?_); (refine eTk 8 ?_); (refine eTk 9 ?_); (refine eTk 12 ?_); (refine eTk 13 ?_); (refine eTk 14 ?_); (refine eTk 15 ?_); (refine eTk 16 ?_); (refine eTk 18 ?_); (refine eTk 19 ?_); (refine eTk 20 ?_); (refine eTk 21 ?_))
        (refine wpAnyE_one (i := 5) (o := ?_) ?_ (by kernel_rfl) (fun K hK => ?_); rotate_left; (focus ((simp only [List.getElem?_toArray, List.getElem?_cons_succ, List.getElem?_cons_zero]; exact rfl))); go_simp; go_at_call 112; refine (HA2.out _).mono ?_; rintro e w' ⟨rfl, rfl⟩; go_wp2_with fail; refine hK.out _ _ ?_ (fun hHeld => ?_); rotate_left; clear hK K; (try simp only [Act.put, List.setIfInBounds_toArray, List.set_cons_zero, List.set_cons_succ]))
        rotate_left
        · exact hS
        clear hHeld
        (refine wpAnyE_one (i := 10) (o := ?_) ?_ (by kernel_rfl) (fun K hK => ?_); rotate_left; (focus ((simp only [List.getElem?_toArray, List.getElem?_cons_succ, List.getElem?_cons_zero]; exact rfl))); go_simp; go_at_call 119; refine (K1.out _).mono ?_; rintro e w' ⟨rfl, rfl⟩; go_wp2_with fail; refine hK.out _ _ ?_ (fun hHeld => ?_); rotate_left; clear hK K; (try simp only [Act.put, List.setIfInBounds_toArray, List.set_cons_zero, List.set_cons_succ]))
        rotate_left
        · exact hS
        clear hHeld
        ((refine eTk 11 ?_))
        (refine wpAnyE_one (i := 17) (o := ?_) ?_ (by kernel_rfl) (fun K hK => ?_); rotate_left; (focus ((simp only [List.getElem?_toArray, List.getElem?_cons_succ, List.getElem?_cons_zero]; exact rfl))); go_simp; go_at_call 112; refine (HA1.out _).mono ?_; rintro e w' ⟨rfl, rfl⟩; go_wp2_with fail; refine hK.out _ _ ?_ (fun hHeld => ?_); rotate_left; clear hK K; (try simp only [Act.put, List.setIfInBounds_toArray, List.set_cons_zero, List.set_cons_succ]))
        rotate_left
        · exact hS
        clear hHeld
        (refine wpAnyE_one (i := 22) (o := ?_) ?_ (by kernel_rfl) (fun K hK => ?_); rotate_left; (focus ((simp only [List.getElem?_toArray, List.getElem?_cons_succ, List.getElem?_cons_zero]; exact rfl))); go_simp; go_at_call 119; refine (K2.out _).mono ?_; rintro e w' ⟨rfl, rfl⟩; go_wp2_with fail; refine hK.out _ _ ?_ (fun hHeld => ?_); rotate_left; clear hK K; (try simp only [Act.put, List.setIfInBounds_toArray, List.set_cons_zero, List.set_cons_succ]))
        rotate_left
        · exact hS
        clear hHeld
        ((refine eTk 23 ?_); (refine eTk 24 ?_))
        obtain ⟨c0, c1, c2, c3⟩ := hS
        obtain ⟨x0, x1, x2, x3, f0, f1, f2, f3⟩ := X
        (refine wpAnyE_one (i := 25) (o := ?_) ?_ (by kernel_rfl) (fun K hK => ?_); rotate_left; (focus ((simp only [List.getElem?_toArray, List.getElem?_cons_succ, List.getElem?_cons_zero]; exact rfl))); go_simp; refine hK.out _ _ ?_ (fun hHeld => ?_); rotate_left; clear hK K; (try simp only [Act.put, List.setIfInBounds_toArray, List.set_cons_zero, List.set_cons_succ]))
        rotate_left
        · exact ⟨by go_simp, by go_simp, by go_simp, by go_simp⟩
        clear hHeld c0 c1 c2 c3
        refine wpAnyE_done (by kernel_rfl) ?_ _
        go_wp2_with fail
        refine bodyPost_ret (v := .agg #[txt h, txt r2, txt l, txt r4]) (by rw [results_cell1 rfl]; go_simp) rfl ?_
        exact ⟨by rw [HR.out]; rfl, extA⟩
      · go_wp2_with fail
        refine (HA1.out _).mono ?_
        rintro e w' ⟨rfl, hw⟩; obtain rfl := hw.symm; clear hw
        clear HA1
        obtain ⟨x0, x1, x2, x3, f0, f1, f2, f3⟩ := X
        cases nl
        · have HR : Hid (C = ((h, m), (h, k))) := HC.out
          clear HC G1 G2
          go_wp2_with fail
          refine bodyPost_ret (v := .agg #[txt h, txt m, txt h, txt k]) (by rw [results_cell1 rfl]; go_simp) rfl ?_
          exact ⟨by rw [HR.out]; rfl, extA⟩
        · go_wp2_with fail
          refine (HA2.out _).mono ?_
          rintro e w' ⟨rfl, hw⟩; obtain rfl := hw.symm; clear hw
          clear HA2
          cases nh
          rotate_left
          · have HR : Hid (C = ((l, k), (l, m))) := HC.out
            clear HC G1 G2
            go_wp2_with fail
            refine bodyPost_ret (v := .agg #[txt l, txt k, txt l, txt m]) (by rw [results_cell1 rfl]; go_simp) rfl ?_
            exact ⟨by rw [HR.out]; rfl, extA⟩
          · cases zh
            rotate_left
            · have HR : Hid (C = ((l, k), (l, m))) := HC.out
              clear HC G1 G2
              go_wp2_with fail
              refine bodyPost_ret (v := .agg #[txt l, txt k, txt l, txt m]) (by rw [results_cell1 rfl]; go_simp) rfl ?_
              exact ⟨by rw [HR.out]; rfl, extA⟩
            · go_wp2_with fail
              have HR : Hid (C = (if greaterE (h, m) (l, k) = true then (h, m) else (l, k), if greaterE (h, k) (l, m) = true then (h, k) else (l, m))) := HC.out
              clear HC zk1 zh1
              generalize greaterE (h, m) (l, k) = b1 at *
              generalize greaterE (h, k) (l, m) = b2 at *
              have OUT : FourAt w0.heap.size ((w0.alloc (.cells #[txt l, txt k, txt l, txt m] 95)).alloc (.cells #[txt h, txt m] 93)) l k l m := ⟨by go_simp, by go_simp, by go_simp, by go_simp, by go_simp, by go_simp, by go_simp, by go_simp⟩
              have T7 : EncAt (w0.heap.size + 1) ((w0.alloc (.cells #[txt l, txt k, txt l, txt m] 95)).alloc (.cells #[txt h, txt m] 93)) h m := ⟨by go_simp, by go_simp, by go_simp, by go_simp⟩
              have EA : Ext w0 ((w0.alloc (.cells #[txt l, txt k, txt l, txt m] 95)).alloc (.cells #[txt h, txt m] 93)) := extA
              have X := (FourAt.mk x0 x1 x2 x3 f0 f1 f2 f3).ext EA
              have E := E.trans EA
              have HCC : ((w0.alloc (.cells #[txt l, txt k, txt l, txt m] 95)).alloc (.cells #[txt h, txt m] 93)).cell? ⟨w.heap.size, 0, none⟩ = some (txt l) ∧ ((w0.alloc (.cells #[txt l, txt k, txt l, txt m] 95)).alloc (.cells #[txt h, txt m] 93)).cell? ⟨w.heap.size, 1, none⟩ = some (txt h) ∧ ((w0.alloc (.cells #[txt l, txt k, txt l, txt m] 95)).alloc (.cells #[txt h, txt m] 93)).cell? ⟨w.heap.size + 1, 0, none⟩ = some (txt m) ∧ ((w0.alloc (.cells #[txt l, txt k, txt l, txt m] 95)).alloc (.cells #[txt h, txt m] 93)).cell? ⟨w.heap.size + 1, 1, none⟩ = some (txt k) := ⟨EA.cell c0, EA.cell c1, EA.cell c2, EA.cell c3⟩
              go_wp2_with fail
              obtain ⟨ob, hob⟩ : ∃ ob, ob = w0.heap.size := ⟨_, rfl⟩
              rw [← hob] at OUT T7 zX z0 z2 ⊢
              generalize ((w0.alloc (.cells #[txt l, txt k, txt l, txt m] 95)).alloc (.cells #[txt h, txt m] 93)) = w1 at T7 OUT X E HCC ⊢
              clear EA c0 c1 c2 c3 x0 x1 x2 x3 f0 f1 f2 f3 hob
              refine (G1.out _ E).mono ?_
              clear G1
              rintro e w2 ⟨rfl, hE⟩
              replace T7 := T7.ext hE
              replace OUT := OUT.ext hE
              replace X := X.ext hE
              replace E := E.trans hE
              replace HCC : w2.cell? ⟨w.heap.size, 0, none⟩ = some (txt l) ∧ w2.cell? ⟨w.heap.size, 1, none⟩ = some (txt h) ∧ w2.cell? ⟨w.heap.size + 1, 0, none⟩ = some (txt m) ∧ w2.cell? ⟨w.heap.size + 1, 1, none⟩ = some (txt k) := ⟨hE.cell HCC.1, hE.cell HCC.2.1, hE.cell HCC.2.2.1, hE.cell HCC.2.2.2⟩
              clear hE
              have zO := cell_lt OUT.c0
              dsimp only at zO
              obtain ⟨c0, c1, c2, c3⟩ := HCC
              have OUT0 := OUT
              obtain ⟨y0, y1, y2, y3, p0, p1, p2, p3⟩ := OUT0
              cases b1
              · replace HR : Hid (C = ((l, k), if b2 = true then (h, k) else (l, m))) := HR.out
                clear T7
                have T8 : EncAt w2.heap.size (w2.alloc (.cells #[txt h, txt k] 93)) h k := ⟨by go_simp, by go_simp, by go_simp, by go_simp⟩
                have EA : Ext w2 (w2.alloc (.cells #[txt h, txt k] 93)) := extA
                replace OUT := OUT.ext EA
                replace X := X.ext EA
                replace E := E.trans EA
                go_wp2_with fail
                obtain ⟨tb, htb⟩ : ∃ tb, tb = w2.heap.size := ⟨_, rfl⟩
                have hto : ob < tb := by omega
                rw [← htb] at T8 ⊢
                generalize (w2.alloc (.cells #[txt h, txt k] 93)) = w4 at T8 OUT X E ⊢
                clear EA c0 c1 c2 c3 z0 z2 y0 y1 y2 y3 p0 p1 p2 p3 htb
                refine (G2.out _ E).mono ?_
                clear G2
                rintro e w5 ⟨rfl, hE⟩
                replace T8 := T8.ext hE
                replace OUT := OUT.ext hE
                replace X := X.ext hE
                replace E := E.trans hE
                clear hE
                cases b2
                · have HR2 : Hid (C = ((l, k), (l, m))) := HR.out
                  obtain ⟨y0, y1, y2, y3, p0, p1, p2, p3⟩ := OUT
                  obtain ⟨x0, x1, x2, x3, f0, f1, f2, f3⟩ := X
                  clear T8 HR
                  go_wp2_with fail
                  refine bodyPost_ret (v := .agg #[txt l, txt k, txt l, txt m]) (by rw [results_cell1 rfl]; go_simp) rfl ?_
                  exact ⟨by rw [HR2.out]; rfl, extA⟩
                · have HR2 : Hid (C = ((l, k), (h, k))) := HR.out
                  obtain ⟨t0, t1, _, _⟩ := T8
                  obtain ⟨y0, y1, y2, y3, p0, p1, p2, p3⟩ := OUT
                  obtain ⟨x0, x1, x2, x3, f0, f1, f2, f3⟩ := X
                  clear HR
                  go_wp2_with fail
                  refine bodyPost_ret (v := .agg #[txt l, txt k, txt h, txt k]) (by rw [results_cell1 rfl]; go_simp) rfl ?_
                  exact ⟨by rw [HR2.out]; rfl, extA⟩
              · replace HR : Hid (C = ((h, m), if b2 = true then (h, k) else (l, m))) := HR.out
                obtain ⟨t0, t1, _, _⟩ := T7
                replace OUT := (OUT.set0 h).set1 m
                replace X := (X.other (c := ob) (o := 0) (v := txt h) (by omega)).other (c := ob) (o := 1) (v := txt m) (by omega)
                replace E := (E.set (b := ob) (o := 0) (by omega) (txt h)).set (b := ob) (o := 1) (by omega) (txt m)
                have T8 : EncAt w2.heap.size (((w2.setCell ⟨ob, 0, none⟩ (txt h)).setCell ⟨ob, 1, none⟩ (txt m)).alloc (.cells #[txt h, txt k] 93)) h k := ⟨by go_simp, by go_simp, by go_simp, by go_simp⟩
                have EA : Ext ((w2.setCell ⟨ob, 0, none⟩ (txt h)).setCell ⟨ob, 1, none⟩ (txt m)) (((w2.setCell ⟨ob, 0, none⟩ (txt h)).setCell ⟨ob, 1, none⟩ (txt m)).alloc (.cells #[txt h, txt k] 93)) := extA
                replace OUT := OUT.ext EA
                replace X := X.ext EA
                replace E := E.trans EA
                go_wp2_with fail
                obtain ⟨tb, htb⟩ : ∃ tb, tb = w2.heap.size := ⟨_, rfl⟩
                have hto : ob < tb := by omega
                rw [← htb] at T8 ⊢
                generalize (((w2.setCell ⟨ob, 0, none⟩ (txt h)).setCell ⟨ob, 1, none⟩ (txt m)).alloc (.cells #[txt h, txt k] 93)) = w4 at T8 OUT X E ⊢
                clear EA c0 c1 c2 c3 z0 z2 y0 y1 y2 y3 p0 p1 p2 p3 htb
                refine (G2.out _ E).mono ?_
                clear G2
                rintro e w5 ⟨rfl, hE⟩
                replace T8 := T8.ext hE
                replace OUT := OUT.ext hE
                replace X := X.ext hE
                replace E := E.trans hE
                clear hE
                cases b2
                · have HR2 : Hid (C = ((h, m), (l, m))) := HR.out
                  obtain ⟨y0, y1, y2, y3, p0, p1, p2, p3⟩ := OUT
                  obtain ⟨x0, x1, x2, x3, f0, f1, f2, f3⟩ := X
                  clear T8 HR
                  go_wp2_with fail
                  refine bodyPost_ret (v := .agg #[txt h, txt m, txt l, txt m]) (by rw [results_cell1 rfl]; go_simp) rfl ?_
                  exact ⟨by rw [HR2.out]; rfl, extA⟩
                · have HR2 : Hid (C = ((h, m), (h, k))) := HR.out
                  obtain ⟨t0, t1, _, _⟩ := T8
                  obtain ⟨y0, y1, y2, y3, p0, p1, p2, p3⟩ := OUT
                  obtain ⟨x0, x1, x2, x3, f0, f1, f2, f3⟩ := X
                  clear HR
                  go_wp2_with fail
                  refine bodyPost_ret (v := .agg #[txt h, txt m, txt h, txt k]) (by rw [results_cell1 rfl]; go_simp) rfl ?_
                  exact ⟨by rw [HR2.out]; rfl, extA⟩
end Go.Proofs.YtdejgaiocjfhjaaGreatDoor
namespace Go.Proofs.YtdejgaiocjfhjaaGreatDoor
open Go.RowKit
theorem ext_ends {a b : Enc} (ha : encE a = 0) (hb : encE b = 0) : endsR (mulS (extremesE a b).1.1 (extremesE a b).1.2) (mulS (extremesE a b).2.1 (extremesE a b).2.2) = endsR (resQ (prodLo a b)) (resQ (prodHi a b)) := by
  have x := extremes_is ha hb
  rw [mulS_right x.l.x x.l.y, mulS_right x.h.x x.h.y, x.lo, x.hi]
theorem zero_has0 {b : Enc} (h : encE b = 0) : zeroE b = has0 b := by
  obtain ⟨b1, b2, _⟩ := enc_right h
  unfold zeroE has0
  rw [negS_right b1, negS_right b2, zero_right b1, Bool.eq_iff_iff]
  simp only [Bool.and_eq_true, Bool.or_eq_true, decide_eq_true_eq, Bool.not_eq_true', decide_eq_false_iff_not]
  grind
theorem eMulEnds_any (a b : Enc) (w : World) (hG : Glob w) (ha : encE a = 0) (hb : encE b = 0) :
    Calls Tryz.prog 71 #[.func (.func 49) #[] #[], pairsV (extremesE a b)] w (EncP (endsR (resQ (prodLo a b)) (resQ (prodHi a b))) w) := by
  have x := extremes_is ha hb
  rw [← ext_ends ha hb]
  exact eEnds_any 49 _ _ _ _ _ _ w enters49 (fun V g => mul_any _ _ V (hG.ext g) (len_right x.l.x) (len_right x.l.y)) (fun V g => mul_any _ _ V (hG.ext g) (len_right x.h.x) (len_right x.h.y))
set_option maxHeartbeats 8000000 in
set_option maxRecDepth 100000 in
theorem eMul_any (a b : Enc) (w : World) (hG : Glob w) (hl : LenE a) (hm : LenE b) : Calls Tryz.prog 24 #[encV a, encV b] w (EncP (mulE a b) w) := by
  have HB := Lib.hid (checked_two a b w hG hl hm)
  have HG := Lib.hid hG
  clear hG
  obtain ⟨C, hC⟩ : ∃ C, C = mulE a b := ⟨_, rfl⟩
  unfold EncP
  rw [← hC]
  unfold mulE at hC
  have hne0 : (((0 : Nat) : Int) != 0) = false := rfl
  obtain ⟨l, h⟩ := a
  obtain ⟨m, k⟩ := b
  obtain ⟨e, he⟩ : ∃ e, e = bothEE (l, h) (m, k) := ⟨_, rfl⟩
  rw [← he] at HB hC
  dsimp only at HB
  have c0 : ((((w.alloc (.cells #[txt l, txt h] 24)).alloc (.cells #[txt m, txt k] 24)).alloc (.cells #[.string ⟨#[]⟩, .string ⟨#[]⟩] 24)).alloc (.cells #[txt l, txt h, txt m, txt k] 24)).cell? ⟨w.heap.size, 0, none⟩ = some (txt l) := by go_simp
  have c1 : ((((w.alloc (.cells #[txt l, txt h] 24)).alloc (.cells #[txt m, txt k] 24)).alloc (.cells #[.string ⟨#[]⟩, .string ⟨#[]⟩] 24)).alloc (.cells #[txt l, txt h, txt m, txt k] 24)).cell? ⟨w.heap.size, 1, none⟩ = some (txt h) := by go_simp
  have c2 : ((((w.alloc (.cells #[txt l, txt h] 24)).alloc (.cells #[txt m, txt k] 24)).alloc (.cells #[.string ⟨#[]⟩, .string ⟨#[]⟩] 24)).alloc (.cells #[txt l, txt h, txt m, txt k] 24)).cell? ⟨w.heap.size + 1, 0, none⟩ = some (txt m) := by go_simp
  have c3 : ((((w.alloc (.cells #[txt l, txt h] 24)).alloc (.cells #[txt m, txt k] 24)).alloc (.cells #[.string ⟨#[]⟩, .string ⟨#[]⟩] 24)).alloc (.cells #[txt l, txt h, txt m, txt k] 24)).cell? ⟨w.heap.size + 1, 1, none⟩ = some (txt k) := by go_simp
  have X : EncAt (w.heap.size + 1 + 1) ((((w.alloc (.cells #[txt l, txt h] 24)).alloc (.cells #[txt m, txt k] 24)).alloc (.cells #[.string ⟨#[]⟩, .string ⟨#[]⟩] 24)).alloc (.cells #[txt l, txt h, txt m, txt k] 24)) [] [] := ⟨by go_simp, by go_simp, by go_simp, by go_simp⟩
  have E : Ext w ((((w.alloc (.cells #[txt l, txt h] 24)).alloc (.cells #[txt m, txt k] 24)).alloc (.cells #[.string ⟨#[]⟩, .string ⟨#[]⟩] 24)).alloc (.cells #[txt l, txt h, txt m, txt k] 24)) := extA
  go_enter Tryz.func24, Tryz.ntmps24
  go_wp2_with fail
  generalize hQ : ((((w.alloc (.cells #[txt l, txt h] 24)).alloc (.cells #[txt m, txt k] 24)).alloc (.cells #[.string ⟨#[]⟩, .string ⟨#[]⟩] 24)).alloc (.cells #[txt l, txt h, txt m, txt k] 24)) = w0 at c0 c1 c2 c3 X E ⊢
  refine (HB.out w0 (((w.alloc (.cells #[txt l, txt h] 24)).alloc (.cells #[txt m, txt k] 24)).alloc (.cells #[.string ⟨#[]⟩, .string ⟨#[]⟩] 24)) (w.heap.size + 1 + 1 + 1) (by simp) hQ.symm E).mono ?_
  clear hQ HB
  rintro e' w1 ⟨rfl, hE⟩
  replace c0 := hE.cell c0
  replace c1 := hE.cell c1
  replace c2 := hE.cell c2
  replace c3 := hE.cell c3
  replace X := X.ext hE
  replace E := E.trans hE
  clear hE
  by_cases e0 : e = 0
  rotate_left
  · rw [if_pos e0] at hC
    have HR : Hid (C = (([], []), e)) := hC
    have hne : (((e : Nat) : Int) != 0) = true := by rw [bne_iff_ne]; omega
    clear hC c0 c1 c2 c3 he HG e0
    obtain ⟨x0, x1, f0, f1⟩ := X
    go_wp2_with fail
    refine bodyPost_ret (v := .tuple #[.agg #[txt [], txt []], .int .i64 (e : Nat)]) (by rw [results_cell_tmp1 rfl]; go_simp) rfl ?_
    exact ⟨by first | (rw [HR.out]; done) | (rw [HR.out]; rfl), extA⟩
  subst e0
  rw [if_neg (by decide)] at hC
  obtain ⟨ha, hb⟩ := bothEE_two he.symm
  clear he
  have HX := Lib.hid (fun W (g : Ext w W) => eExtremes_any (l, h) (m, k) W (HG.out.ext g) hl hm ha hb)
  have HE := Lib.hid (fun W (g : Ext w W) => eMulEnds_any (l, h) (m, k) W (HG.out.ext g) ha hb)
  unfold EncP at HE
  generalize extremesE (l, h) (m, k) = P at HX HE
  generalize endsR (resQ (prodLo (l, h) (m, k))) (resQ (prodHi (l, h) (m, k))) = R at HE hC
  obtain ⟨⟨r1, r2⟩, r3⟩ := R
  have HR := Lib.hid hC
  clear hC ha hb hl hm HG
  go_wp2_with fail
  refine (HX.out _ E).mono ?_
  clear HX
  rintro e w2 ⟨rfl, hE⟩
  clear c0 c1 c2 c3
  replace X := X.ext hE
  replace E := E.trans hE
  clear hE
  go_wp2_with fail
  refine (HE.out _ E).mono ?_
  rintro e w3 ⟨rfl, hE⟩
  replace X := X.ext hE
  replace E := E.trans hE
  obtain ⟨x0, x1, f0, f1⟩ := X
  go_wp2_with fail
  refine bodyPost_ret (v := .tuple #[.agg #[txt r1, txt r2], .int .i64 (r3 : Nat)]) (by rw [results_cell_tmp1 rfl]; go_simp) rfl ?_
  exact ⟨by first | (rw [HR.out]; done) | (rw [HR.out]; rfl), extA⟩
set_option maxHeartbeats 8000000 in
set_option maxRecDepth 100000 in
theorem eDiv_any (a b : Enc) (w : World) (hG : Glob w) (hl : LenE a) (hm : LenE b) : Calls Tryz.prog 26 #[encV a, encV b] w (EncP (divE a b) w) := by
  have HB := Lib.hid (checked_two a b w hG hl hm)
  have HG := Lib.hid hG
  clear hG
  obtain ⟨C, hC⟩ : ∃ C, C = divE a b := ⟨_, rfl⟩
  unfold EncP
  rw [← hC]
  unfold divE at hC
  have hne0 : (((0 : Nat) : Int) != 0) = false := rfl
  obtain ⟨l, h⟩ := a
  obtain ⟨m, k⟩ := b
  obtain ⟨e, he⟩ : ∃ e, e = bothEE (l, h) (m, k) := ⟨_, rfl⟩
  rw [← he] at HB hC
  dsimp only at HB
  have c0 : ((((w.alloc (.cells #[txt l, txt h] 24)).alloc (.cells #[txt m, txt k] 24)).alloc (.cells #[.string ⟨#[]⟩, .string ⟨#[]⟩] 24)).alloc (.cells #[txt l, txt h, txt m, txt k] 24)).cell? ⟨w.heap.size, 0, none⟩ = some (txt l) := by go_simp
  have c1 : ((((w.alloc (.cells #[txt l, txt h] 24)).alloc (.cells #[txt m, txt k] 24)).alloc (.cells #[.string ⟨#[]⟩, .string ⟨#[]⟩] 24)).alloc (.cells #[txt l, txt h, txt m, txt k] 24)).cell? ⟨w.heap.size, 1, none⟩ = some (txt h) := by go_simp
  have c2 : ((((w.alloc (.cells #[txt l, txt h] 24)).alloc (.cells #[txt m, txt k] 24)).alloc (.cells #[.string ⟨#[]⟩, .string ⟨#[]⟩] 24)).alloc (.cells #[txt l, txt h, txt m, txt k] 24)).cell? ⟨w.heap.size + 1, 0, none⟩ = some (txt m) := by go_simp
  have c3 : ((((w.alloc (.cells #[txt l, txt h] 24)).alloc (.cells #[txt m, txt k] 24)).alloc (.cells #[.string ⟨#[]⟩, .string ⟨#[]⟩] 24)).alloc (.cells #[txt l, txt h, txt m, txt k] 24)).cell? ⟨w.heap.size + 1, 1, none⟩ = some (txt k) := by go_simp
  have X : EncAt (w.heap.size + 1 + 1) ((((w.alloc (.cells #[txt l, txt h] 24)).alloc (.cells #[txt m, txt k] 24)).alloc (.cells #[.string ⟨#[]⟩, .string ⟨#[]⟩] 24)).alloc (.cells #[txt l, txt h, txt m, txt k] 24)) [] [] := ⟨by go_simp, by go_simp, by go_simp, by go_simp⟩
  have E : Ext w ((((w.alloc (.cells #[txt l, txt h] 24)).alloc (.cells #[txt m, txt k] 24)).alloc (.cells #[.string ⟨#[]⟩, .string ⟨#[]⟩] 24)).alloc (.cells #[txt l, txt h, txt m, txt k] 24)) := extA
  go_enter Tryz.func26, Tryz.ntmps26
  go_wp2_with fail
  generalize hQ : ((((w.alloc (.cells #[txt l, txt h] 24)).alloc (.cells #[txt m, txt k] 24)).alloc (.cells #[.string ⟨#[]⟩, .string ⟨#[]⟩] 24)).alloc (.cells #[txt l, txt h, txt m, txt k] 24)) = w0 at c0 c1 c2 c3 X E ⊢
  refine (HB.out w0 (((w.alloc (.cells #[txt l, txt h] 24)).alloc (.cells #[txt m, txt k] 24)).alloc (.cells #[.string ⟨#[]⟩, .string ⟨#[]⟩] 24)) (w.heap.size + 1 + 1 + 1) (by simp) hQ.symm E).mono ?_
  clear hQ HB
  rintro e' w1 ⟨rfl, hE⟩
  replace c0 := hE.cell c0
  replace c1 := hE.cell c1
  replace c2 := hE.cell c2
  replace c3 := hE.cell c3
  replace X := X.ext hE
  replace E := E.trans hE
  clear hE
  by_cases e0 : e = 0
  rotate_left
  · rw [if_pos e0] at hC
    have HR : Hid (C = (([], []), e)) := hC
    have hne : (((e : Nat) : Int) != 0) = true := by rw [bne_iff_ne]; omega
    clear hC c0 c1 c2 c3 he HG e0
    obtain ⟨x0, x1, f0, f1⟩ := X
    go_wp2_with fail
    refine bodyPost_ret (v := .tuple #[.agg #[txt [], txt []], .int .i64 (e : Nat)]) (by rw [results_cell_tmp1 rfl]; go_simp) rfl ?_
    exact ⟨by first | (rw [HR.out]; done) | (rw [HR.out]; rfl), extA⟩
  subst e0
  rw [if_neg (by decide)] at hC
  obtain ⟨ha, hb⟩ := bothEE_two he.symm
  clear he
  have HZ := Lib.hid (fun W => eZero_any (m, k) W)
  rw [zero_has0 hb] at HZ
  go_wp2_with fail
  refine (HZ.out _).mono ?_
  clear HZ
  rintro e w2 ⟨rfl, hE⟩
  replace c0 := hE.cell c0
  replace c1 := hE.cell c1
  replace c2 := hE.cell c2
  replace c3 := hE.cell c3
  replace X := X.ext hE
  replace E := E.trans hE
  clear hE
  by_cases hz : has0 (m, k) = true
  · rw [if_pos hz] at hC
    have HR : Hid (C = (([], []), 10)) := hC
    rw [hz]
    clear hC c0 c1 c2 c3 HG ha hb hl hm hz
    obtain ⟨x0, x1, f0, f1⟩ := X
    go_wp2_with fail
    refine bodyPost_ret (v := .tuple #[.agg #[txt [], txt []], .int .i64 10]) (by rw [results_cell_tmp1 rfl]; go_simp) rfl ?_
    exact ⟨by first | (rw [HR.out]; done) | (rw [HR.out]; rfl), extA⟩
  · rw [if_neg hz] at hC
    have hz := Bool.eq_false_iff.2 hz
    rw [hz]
    obtain ⟨t1, t2, _, _⟩ := turn_right hb hz
    have HT := Lib.hid (fun W (g : Ext w W) => eEnds_any 50 [49] k [49] m (divS [49] k) (divS [49] m) W enters50 (fun V g2 => div_any _ _ V (HG.out.ext (g.trans g2)) (by decide) hm.2) (fun V g2 => div_any _ _ V (HG.out.ext (g.trans g2)) (by decide) hm.1))
    dsimp only at t1
    rw [t1] at HT
    unfold EncP at HT
    have hlt : LenE (turnE (m, k)) := ⟨len_right (enc_right t2).1, len_right (enc_right t2).2.1⟩
    have HX := Lib.hid (fun W (g : Ext w W) => eExtremes_any (l, h) (turnE (m, k)) W (HG.out.ext g) hl hlt ha t2)
    have HE := Lib.hid (fun W (g : Ext w W) => eMulEnds_any (l, h) (turnE (m, k)) W (HG.out.ext g) ha t2)
    unfold EncP at HE
    rw [(turn_prod hb hz).1, (turn_prod hb hz).2] at HE
    generalize extremesE (l, h) (turnE (m, k)) = P at HX HE
    generalize endsR (resQ (quotLo (l, h) (m, k))) (resQ (quotHi (l, h) (m, k))) = R at HE hC
    generalize turnE (m, k) = T at HT HX
    obtain ⟨⟨r1, r2⟩, r3⟩ := R
    obtain ⟨u, v⟩ := T
    have HR := Lib.hid hC
    clear hC ha hb hl hm HG hz t1 t2 hlt
    dsimp only [encV] at HT HX
    go_wp2_with fail
    refine (HT.out _ E).mono ?_
    clear HT
    rintro e w3 ⟨rfl, hE⟩
    clear c2 c3
    replace c0 := hE.cell c0
    replace c1 := hE.cell c1
    replace X := X.ext hE
    replace E := E.trans hE
    clear hE
    have z0 := cell_lt c0
    dsimp only at z0
    have EA : Ext w3 (w3.alloc (.cells #[txt u, txt v] 24)) := extA
    replace X := X.ext EA
    replace E := E.trans EA
    go_wp2_with fail
    refine (HX.out _ E).mono ?_
    clear HX
    rintro e w4 ⟨rfl, hE⟩
    clear c0 c1
    replace X := X.ext hE
    replace E := E.trans hE
    clear hE
    go_wp2_with fail
    refine (HE.out _ E).mono ?_
    rintro e w5 ⟨rfl, hE⟩
    replace X := X.ext hE
    replace E := E.trans hE
    obtain ⟨x0, x1, f0, f1⟩ := X
    go_wp2_with fail
    refine bodyPost_ret (v := .tuple #[.agg #[txt r1, txt r2], .int .i64 (r3 : Nat)]) (by rw [results_cell_tmp1 rfl]; go_simp) rfl ?_
    exact ⟨by first | (rw [HR.out]; done) | (rw [HR.out]; rfl), extA⟩
def nearE (a : Enc) : Txt := if zeroE a then [48] else if greaterE (a.1, [49]) (a.2, [49]) then a.2 else a.1
def farE (a : Enc) : Txt := if greaterE (a.1, [49]) (a.2, [49]) then a.1 else a.2
theorem abs_le {x y : Rat} (h : absQ x ≤ absQ y) : x * x ≤ y * y := by
  have h0 : 0 ≤ absQ x := by unfold absQ; grind
  have h1 := mul_le h h0
  have h2 := mul_le h (Rat.le_trans h0 h)
  have e1 : absQ x * absQ x = x * x := by unfold absQ; grind
  have e2 : absQ y * absQ y = y * y := by unfold absQ; grind
  grind
theorem far_is {a : Enc} (ha : encE a = 0) : mulS (farE a) (farE a) = resQ (sqHi a) ∧ mulS (nearE a) (nearE a) = resQ (sqLo a) := by
  obtain ⟨a1, a2, _⟩ := enc_right ha
  have hg : greaterE (a.1, [49]) (a.2, [49]) = decide (absQ (fracQ a.2) < absQ (fracQ a.1)) := by
    rw [greater_is a1 one_right.1 a2 one_right.1, one_right.2]
    have e : absQ 1 = 1 := by unfold absQ; rw [if_neg (by decide)]
    rw [e, Rat.mul_one, Rat.mul_one]
  unfold farE nearE
  rw [hg, zero_has0 ha]
  have h48 : fracE [48] = 0 := by decide
  have q48 : fracQ [48] = 0 := by decide
  by_cases h : absQ (fracQ a.2) < absQ (fracQ a.1)
  · have k := abs_le (Rat.le_of_lt h)
    simp only [decide_eq_true h, if_true]
    refine ⟨by rw [mulS_right a1 a1]; unfold sqHi hi2; congr 1; split <;> grind, ?_⟩
    unfold sqLo lo2
    split
    · rw [mulS_right h48 h48, q48, Rat.mul_zero]
    · rw [mulS_right a2 a2]; congr 1; split <;> grind
  · have k := abs_le (Rat.not_lt.1 h)
    simp only [decide_eq_false h, Bool.false_eq_true, if_false]
    refine ⟨by rw [mulS_right a2 a2]; unfold sqHi hi2; congr 1; split <;> grind, ?_⟩
    unfold sqLo lo2
    split
    · rw [mulS_right h48 h48, q48, Rat.mul_zero]
    · rw [mulS_right a1 a1]; congr 1; split <;> grind
set_option maxHeartbeats 8000000 in
set_option maxRecDepth 100000 in
theorem eSquare_any (a : Enc) (w : World) (hG : Glob w) (hl : LenE a) : Calls Tryz.prog 16 #[encV a] w (EncP (squareE a) w) := by
  have HB := Lib.hid (fun W (g : Ext w W) => eCheck_any a W (hG.ext g) hl)
  have HG := Lib.hid hG
  clear hG
  obtain ⟨C, hC⟩ : ∃ C, C = squareE a := ⟨_, rfl⟩
  unfold EncP
  rw [← hC]
  unfold squareE at hC
  have hne0 : (((0 : Nat) : Int) != 0) = false := rfl
  obtain ⟨l, h⟩ := a
  obtain ⟨e, he⟩ : ∃ e, e = encE (l, h) := ⟨_, rfl⟩
  rw [← he] at HB hC
  dsimp only [encV] at HB ⊢
  have c0 : ((w.alloc (.cells #[txt l, txt h] 24)).alloc (.cells #[.string ⟨#[]⟩, .string ⟨#[]⟩] 24)).cell? ⟨w.heap.size, 0, none⟩ = some (txt l) := by go_simp
  have c1 : ((w.alloc (.cells #[txt l, txt h] 24)).alloc (.cells #[.string ⟨#[]⟩, .string ⟨#[]⟩] 24)).cell? ⟨w.heap.size, 1, none⟩ = some (txt h) := by go_simp
  have X : EncAt (w.heap.size + 1) ((w.alloc (.cells #[txt l, txt h] 24)).alloc (.cells #[.string ⟨#[]⟩, .string ⟨#[]⟩] 24)) [] [] := ⟨by go_simp, by go_simp, by go_simp, by go_simp⟩
  have E : Ext w ((w.alloc (.cells #[txt l, txt h] 24)).alloc (.cells #[.string ⟨#[]⟩, .string ⟨#[]⟩] 24)) := extA
  go_enter Tryz.func16, Tryz.ntmps16
  go_wp2_with fail
  generalize ((w.alloc (.cells #[txt l, txt h] 24)).alloc (.cells #[.string ⟨#[]⟩, .string ⟨#[]⟩] 24)) = w0 at c0 c1 X E ⊢
  refine (HB.out w0 E).mono ?_
  clear HB
  rintro e' w1 ⟨rfl, hE⟩
  replace c0 := hE.cell c0
  replace c1 := hE.cell c1
  replace X := X.ext hE
  replace E := E.trans hE
  clear hE
  by_cases e0 : e = 0
  rotate_left
  · rw [if_pos e0] at hC
    have HR : Hid (C = (([], []), e)) := hC
    have hne : (((e : Nat) : Int) != 0) = true := by rw [bne_iff_ne]; omega
    clear hC c0 c1 he HG e0
    obtain ⟨x0, x1, f0, f1⟩ := X
    go_wp2_with fail
    refine bodyPost_ret (v := .tuple #[.agg #[txt [], txt []], .int .i64 (e : Nat)]) (by rw [results_cell_tmp1 rfl]; go_simp) rfl ?_
    exact ⟨by first | (rw [HR.out]; done) | (rw [HR.out]; rfl), extA⟩
  subst e0
  rw [if_neg (by decide)] at hC
  have ha : encE (l, h) = 0 := he.symm
  clear he
  obtain ⟨a1, a2, _⟩ := enc_right ha
  obtain ⟨e1, e2⟩ := far_is ha
  rw [← e1, ← e2] at hC
  have HGR := Lib.hid (fun W (g : Ext w W) => eGreater_any l [49] h [49] W (HG.out.ext g) hl.1 (by decide) hl.2 (by decide) a1 one_right.1 a2 one_right.1)
  have HZ := Lib.hid (fun W => eZero_any (l, h) W)
  have rn : fracE (nearE (l, h)) = 0 := by
    unfold nearE
    split
    · decide
    · split
      · exact a2
      · exact a1
  have rf : fracE (farE (l, h)) = 0 := by
    unfold farE
    split
    · exact a1
    · exact a2
  have HE := Lib.hid (fun W (g : Ext w W) => eEnds_any 49 (nearE (l, h)) (nearE (l, h)) (farE (l, h)) (farE (l, h)) _ _ W enters49 (fun V g2 => mul_any _ _ V (HG.out.ext (g.trans g2)) (len_right rn) (len_right rn)) (fun V g2 => mul_any _ _ V (HG.out.ext (g.trans g2)) (len_right rf) (len_right rf)))
  unfold EncP at HE
  generalize endsR (mulS (nearE (l, h)) (nearE (l, h))) (mulS (farE (l, h)) (farE (l, h))) = R at HE hC
  obtain ⟨⟨r1, r2⟩, r3⟩ := R
  have HR := Lib.hid hC
  unfold nearE farE at HE
  generalize zeroE (l, h) = bz at HZ HE
  dsimp only [encV] at HE HGR HZ
  generalize greaterE (l, [49]) (h, [49]) = bg at HGR HE
  clear hC ha hl HG a1 a2 e1 e2 rn rf
  have hD : Ext w1 w1.drew := extA
  replace X := X.ext hD
  replace E := E.trans hD
  have hS : w1.drew.cell? ⟨w.heap.size, 0, none⟩ = some (txt l) ∧ w1.drew.cell? ⟨w.heap.size, 1, none⟩ = some (txt h) := ⟨hD.cell c0, hD.cell c1⟩
  go_wp2_with fail
  refine wp_region_heldE 99 (fun w' => w'.cell? ⟨w.heap.size, 0, none⟩ = some (txt l) ∧ w'.cell? ⟨w.heap.size, 1, none⟩ = some (txt h)) (by kernel_rfl) ?_
  clear c0 c1 hD
  generalize w1.drew = w2 at X E hS ⊢
  ((refine eTk 0 ?_); (refine eTk 1 ?_); (refine eTk 2 ?_); (refine eTk 3 ?_))
  ((refine ePu 4 ?_); (refine ePu 5 ?_))
  obtain ⟨c0, c1⟩ := hS
  refine wpAnyE_done (by kernel_rfl) ?_ _
  go_wp2_with fail
  refine (HGR.out _ E).mono ?_
  clear HGR
  rintro e w3 ⟨rfl, hE⟩
  replace c0 := hE.cell c0
  replace c1 := hE.cell c1
  replace X := X.ext hE
  replace E := E.trans hE
  clear hE
  cases bg
  all_goals
    go_wp2_with fail
    refine (HZ.out _).mono ?_
    rintro e w4 ⟨rfl, hE⟩
    replace X := X.ext hE
    replace E := E.trans hE
    clear hE c0 c1
    cases bz
    all_goals
      simp only [Bool.false_eq_true, if_true, if_false] at HE
      go_wp2_with fail
      refine (HE.out _ E).mono ?_
      rintro e w5 ⟨rfl, hE⟩
      replace X := X.ext hE
      replace E := E.trans hE
      obtain ⟨x0, x1, f0, f1⟩ := X
      go_wp2_with fail
      refine bodyPost_ret (v := .tuple #[.agg #[txt r1, txt r2], .int .i64 (r3 : Nat)]) (by rw [results_cell_tmp1 rfl]; go_simp) rfl ?_
      exact ⟨by first | (rw [HR.out]; done) | (rw [HR.out]; rfl), extA⟩
end Go.Proofs.YtdejgaiocjfhjaaGreatDoor
namespace Go.Proofs.YtdejgaiocjfhjaaGreatDoor
open Go.RowKit
theorem lawOf_any (l h : Txt) (w : World) : Calls Tryz.prog 52 #[txt l, txt h] w fun e w' => e = .returned (encV (l, h)) ∧ Ext w w' := by
  go_enter Tryz.func52, Tryz.ntmps52
  go_wp2
  refine bodyPost_ret (v := .agg #[txt l, txt h]) (by rw [results_cell1 rfl]; go_simp) rfl ?_
  exact ⟨rfl, extA⟩
def fewE (a : Enc) : Bool := decide (a.1.length ≤ 180) && decide (a.2.length ≤ 180)
theorem fewE_len {a : Enc} (h : fewE a = true) : LenE a := by
  unfold fewE at h
  simp only [Bool.and_eq_true, decide_eq_true_eq] at h
  exact ⟨by omega, by omega⟩
set_option maxHeartbeats 4000000 in
theorem few2_any (a : Enc) (w : World) : Calls Tryz.prog 14 #[encV a] w fun e w' => e = .returned (.bool (fewE a)) ∧ Ext w w' := by
  obtain ⟨l, h⟩ := a
  have H1 := Lib.hid (fun W => fewR_any l W)
  have H2 := Lib.hid (fun W => fewR_any h W)
  unfold fewE
  dsimp only [encV] at *
  generalize decide (l.length ≤ 180) = b1 at *
  generalize decide (h.length ≤ 180) = b2 at *
  have E : Ext w (w.alloc (.cells #[txt l, txt h] 24)) := extA
  cases b1
  · go_enter Tryz.func14, Tryz.ntmps14
    go_wp2_with (go_at_call 37; refine (H1.out _).mono ?_; rintro e w' ⟨rfl, rfl⟩)
    go_ret
    exact ⟨rfl, E⟩
  · cases b2
    all_goals
      go_enter Tryz.func14, Tryz.ntmps14
      go_wp2_with fail
      refine (H1.out _).mono ?_
      clear H1
      rintro e w' ⟨rfl, hw⟩; obtain rfl := hw.symm; clear hw
      go_wp2_with fail
      refine (H2.out _).mono ?_
      rintro e w' ⟨rfl, hw⟩; obtain rfl := hw.symm; clear hw
      go_wp2_with fail
      go_ret
      exact ⟨rfl, E⟩
theorem ends_is {p q : Rat} {s t : Txt} (hs : fracE s = 0) (ht : fracE t = 0) (es : fracQ s = p) (et : fracQ t = q) : endsR (resQ p) (resQ q) = ((s, t), 0) := by
  rw [made_is hs es, made_is ht et]; rfl
theorem ex2_mul : mulE ([45, 50], [51]) ([53], [55]) = (([45, 49, 52], [50, 49]), 0) := by
  unfold mulE
  rw [if_neg (by decide +kernel)]
  exact ends_is (by decide) (by decide) (by decide +kernel) (by decide +kernel)
theorem ex2_div : divE ([45, 50], [51]) ([53], [55]) = (([45, 50, 47, 53], [51, 47, 53]), 0) := by
  unfold divE
  rw [if_neg (by decide +kernel), if_neg (by decide +kernel)]
  exact ends_is (by decide) (by decide) (by decide +kernel) (by decide +kernel)
theorem ex2_sq : squareE ([45, 50], [51]) = (([48], [57]), 0) := by
  unfold squareE
  rw [if_neg (by decide +kernel)]
  exact ends_is (by decide) (by decide) (by decide +kernel) (by decide +kernel)
theorem ex2_cmp : compareE ([49, 47, 50], [50, 47, 51]) ([51, 47, 52], [49]) = (-1, 0) := by decide +kernel
theorem ex2_cmp2 : compareE ([49, 47, 50], [50, 47, 51]) ([50, 47, 51], [49]) = (0, 0) := by decide +kernel
theorem ex2_meet : meetE ([49, 47, 50], [50, 47, 51]) ([50, 47, 51], [49]) = (([50, 47, 51], [50, 47, 51]), true, 0) := by decide +kernel
set_option maxHeartbeats 16000000 in
set_option maxRecDepth 100000 in
theorem awake2_any (w : World) (hG : Glob w) : Calls Tryz.prog 15 #[] w fun e w' => e = .returned (.bool true) ∧ Ext w w' := by
  have HG := Lib.hid hG
  have X1 : Hid (∀ W, Ext w W → Calls Tryz.prog 24 #[encV ([45, 50], [51]), encV ([53], [55])] W (EncP (([45, 49, 52], [50, 49]), 0) W)) := fun W h => by rw [← ex2_mul]; exact eMul_any _ _ W (HG.out.ext h) ⟨by decide, by decide⟩ ⟨by decide, by decide⟩
  have X2 : Hid (∀ W, Ext w W → Calls Tryz.prog 26 #[encV ([45, 50], [51]), encV ([53], [55])] W (EncP (([45, 50, 47, 53], [51, 47, 53]), 0) W)) := fun W h => by rw [← ex2_div]; exact eDiv_any _ _ W (HG.out.ext h) ⟨by decide, by decide⟩ ⟨by decide, by decide⟩
  have X3 : Hid (∀ W, Ext w W → Calls Tryz.prog 16 #[encV ([45, 50], [51])] W (EncP (([48], [57]), 0) W)) := fun W h => by rw [← ex2_sq]; exact eSquare_any _ W (HG.out.ext h) ⟨by decide, by decide⟩
  have X4 : Hid (∀ W, Ext w W → Calls Tryz.prog 34 #[encV ([49, 47, 50], [50, 47, 51]), encV ([51, 47, 52], [49])] W (IntP (-1) 0 W)) := fun W h => by have k := eCompare_any ([49, 47, 50], [50, 47, 51]) ([51, 47, 52], [49]) W (HG.out.ext h) ⟨by decide, by decide⟩ ⟨by decide, by decide⟩; rw [ex2_cmp] at k; exact k
  have X5 : Hid (∀ W, Ext w W → Calls Tryz.prog 34 #[encV ([49, 47, 50], [50, 47, 51]), encV ([50, 47, 51], [49])] W (IntP 0 0 W)) := fun W h => by have k := eCompare_any ([49, 47, 50], [50, 47, 51]) ([50, 47, 51], [49]) W (HG.out.ext h) ⟨by decide, by decide⟩ ⟨by decide, by decide⟩; rw [ex2_cmp2] at k; exact k
  have X6 : Hid (∀ W, Ext w W → Calls Tryz.prog 28 #[encV ([49, 47, 50], [50, 47, 51]), encV ([50, 47, 51], [49])] W (MeetP (([50, 47, 51], [50, 47, 51]), true, 0) W)) := fun W h => by rw [← ex2_meet]; exact eMeet_any _ _ W (HG.out.ext h) ⟨by decide, by decide⟩ ⟨by decide, by decide⟩
  have X7 := Lib.hid (fun W => ePi_any W)
  have XO := Lib.hid (fun l h W => lawOf_any l h W)
  clear hG
  unfold EncP at X1 X2 X3
  unfold IntP at X4 X5
  unfold MeetP at X6
  dsimp only [encV] at X1 X2 X3 X4 X5 X6 X7 XO
  have E := Ext.refl w
  go_enter Tryz.func15, Tryz.ntmps15
  go_wp2_with fail
  refine (XO.out _ _ _).mono ?_
  rintro e w1 ⟨rfl, hE⟩
  replace E := E.trans hE
  clear hE
  go_wp2_with fail
  refine (XO.out _ _ _).mono ?_
  rintro e w2 ⟨rfl, hE⟩
  replace E := E.trans hE
  clear hE
  have A : EncAt (w2.heap.size) ((w2.alloc (.cells #[txt [45, 50], txt [51]] 24)).alloc (.cells #[txt [53], txt [55]] 24)) [45, 50] [51] := ⟨by go_simp, by go_simp, by go_simp, by go_simp⟩
  have B : EncAt (w2.heap.size + 1) ((w2.alloc (.cells #[txt [45, 50], txt [51]] 24)).alloc (.cells #[txt [53], txt [55]] 24)) [53] [55] := ⟨by go_simp, by go_simp, by go_simp, by go_simp⟩
  have EA : Ext w2 ((w2.alloc (.cells #[txt [45, 50], txt [51]] 24)).alloc (.cells #[txt [53], txt [55]] 24)) := extA
  replace E := E.trans EA
  clear EA
  go_wp2_with fail
  obtain ⟨bB, hbB⟩ : ∃ b, b = w2.heap.size + 1 := ⟨_, rfl⟩
  rw [← hbB] at B ⊢
  obtain ⟨bA, hbA⟩ : ∃ b, b = w2.heap.size := ⟨_, rfl⟩
  rw [← hbA] at A ⊢
  generalize ((w2.alloc (.cells #[txt [45, 50], txt [51]] 24)).alloc (.cells #[txt [53], txt [55]] 24)) = w3 at A B E ⊢
  clear hbA
  clear hbB
  refine (X1.out _ E).mono ?_
  rintro e w4 ⟨rfl, hE⟩
  replace E := E.trans hE
  replace A := A.ext hE
  replace B := B.ext hE
  clear hE
  have A' := A
  have B' := B
  obtain ⟨A0, A1, _, _⟩ := A
  have zA := cell_lt A0
  dsimp only at zA
  obtain ⟨B0, B1, _, _⟩ := B
  have zB := cell_lt B0
  dsimp only at zB
  have M : EncAt (w4.heap.size) (w4.alloc (.cells #[txt [45, 49, 52], txt [50, 49]] 24)) [45, 49, 52] [50, 49] := ⟨by go_simp, by go_simp, by go_simp, by go_simp⟩
  have EA : Ext w4 (w4.alloc (.cells #[txt [45, 49, 52], txt [50, 49]] 24)) := extA
  replace A' := A'.ext EA
  replace B' := B'.ext EA
  replace E := E.trans EA
  clear EA
  go_wp2_with fail
  clear A0 A1 zA B0 B1 zB
  have A := A'
  clear A'
  have B := B'
  clear B'
  obtain ⟨bM, hbM⟩ : ∃ b, b = w4.heap.size := ⟨_, rfl⟩
  rw [← hbM] at M ⊢
  generalize (w4.alloc (.cells #[txt [45, 49, 52], txt [50, 49]] 24)) = w5 at A B M E ⊢
  clear hbM
  refine (X2.out _ E).mono ?_
  rintro e w6 ⟨rfl, hE⟩
  replace E := E.trans hE
  replace A := A.ext hE
  replace B := B.ext hE
  replace M := M.ext hE
  clear hE
  have A' := A
  have B' := B
  have M' := M
  obtain ⟨A0, A1, _, _⟩ := A
  have zA := cell_lt A0
  dsimp only at zA
  obtain ⟨B0, B1, _, _⟩ := B
  have zB := cell_lt B0
  dsimp only at zB
  obtain ⟨M0, M1, _, _⟩ := M
  have zM := cell_lt M0
  dsimp only at zM
  have D : EncAt (w6.heap.size) (w6.alloc (.cells #[txt [45, 50, 47, 53], txt [51, 47, 53]] 24)) [45, 50, 47, 53] [51, 47, 53] := ⟨by go_simp, by go_simp, by go_simp, by go_simp⟩
  have EA : Ext w6 (w6.alloc (.cells #[txt [45, 50, 47, 53], txt [51, 47, 53]] 24)) := extA
  replace A' := A'.ext EA
  replace B' := B'.ext EA
  replace M' := M'.ext EA
  replace E := E.trans EA
  clear EA
  go_wp2_with fail
  clear A0 A1 zA B0 B1 zB M0 M1 zM
  have A := A'
  clear A'
  have B := B'
  clear B'
  have M := M'
  clear M'
  obtain ⟨bD, hbD⟩ : ∃ b, b = w6.heap.size := ⟨_, rfl⟩
  rw [← hbD] at D ⊢
  generalize (w6.alloc (.cells #[txt [45, 50, 47, 53], txt [51, 47, 53]] 24)) = w7 at A B M D E ⊢
  clear hbD
  refine (X3.out _ E).mono ?_
  rintro e w8 ⟨rfl, hE⟩
  replace E := E.trans hE
  replace A := A.ext hE
  replace B := B.ext hE
  replace M := M.ext hE
  replace D := D.ext hE
  clear hE
  have A' := A
  have B' := B
  have M' := M
  have D' := D
  obtain ⟨A0, A1, _, _⟩ := A
  have zA := cell_lt A0
  dsimp only at zA
  obtain ⟨B0, B1, _, _⟩ := B
  have zB := cell_lt B0
  dsimp only at zB
  obtain ⟨M0, M1, _, _⟩ := M
  have zM := cell_lt M0
  dsimp only at zM
  obtain ⟨D0, D1, _, _⟩ := D
  have zD := cell_lt D0
  dsimp only at zD
  have S : EncAt (w8.heap.size) (w8.alloc (.cells #[txt [48], txt [57]] 24)) [48] [57] := ⟨by go_simp, by go_simp, by go_simp, by go_simp⟩
  have EA : Ext w8 (w8.alloc (.cells #[txt [48], txt [57]] 24)) := extA
  replace A' := A'.ext EA
  replace B' := B'.ext EA
  replace M' := M'.ext EA
  replace D' := D'.ext EA
  replace E := E.trans EA
  clear EA
  go_wp2_with fail
  clear A0 A1 zA B0 B1 zB M0 M1 zM D0 D1 zD
  have A := A'
  clear A'
  have B := B'
  clear B'
  have M := M'
  clear M'
  have D := D'
  clear D'
  obtain ⟨bS, hbS⟩ : ∃ b, b = w8.heap.size := ⟨_, rfl⟩
  rw [← hbS] at S ⊢
  generalize (w8.alloc (.cells #[txt [48], txt [57]] 24)) = w9 at A B M D S E ⊢
  clear hbS
  refine (XO.out _ _ _).mono ?_
  rintro e w10 ⟨rfl, hE⟩
  replace E := E.trans hE
  replace A := A.ext hE
  replace B := B.ext hE
  replace M := M.ext hE
  replace D := D.ext hE
  replace S := S.ext hE
  clear hE
  have A' := A
  have B' := B
  have M' := M
  have D' := D
  have S' := S
  obtain ⟨A0, A1, _, _⟩ := A
  have zA := cell_lt A0
  dsimp only at zA
  obtain ⟨B0, B1, _, _⟩ := B
  have zB := cell_lt B0
  dsimp only at zB
  obtain ⟨M0, M1, _, _⟩ := M
  have zM := cell_lt M0
  dsimp only at zM
  obtain ⟨D0, D1, _, _⟩ := D
  have zD := cell_lt D0
  dsimp only at zD
  obtain ⟨S0, S1, _, _⟩ := S
  have zS := cell_lt S0
  dsimp only at zS
  go_wp2_with fail
  clear A0 A1 zA B0 B1 zB M0 M1 zM D0 D1 zD S0 S1 zS
  have A := A'
  clear A'
  have B := B'
  clear B'
  have M := M'
  clear M'
  have D := D'
  clear D'
  have S := S'
  clear S'
  refine (XO.out _ _ _).mono ?_
  rintro e w11 ⟨rfl, hE⟩
  replace E := E.trans hE
  replace A := A.ext hE
  replace B := B.ext hE
  replace M := M.ext hE
  replace D := D.ext hE
  replace S := S.ext hE
  clear hE
  have A' := A
  have B' := B
  have M' := M
  have D' := D
  have S' := S
  obtain ⟨A0, A1, _, _⟩ := A
  have zA := cell_lt A0
  dsimp only at zA
  obtain ⟨B0, B1, _, _⟩ := B
  have zB := cell_lt B0
  dsimp only at zB
  obtain ⟨M0, M1, _, _⟩ := M
  have zM := cell_lt M0
  dsimp only at zM
  obtain ⟨D0, D1, _, _⟩ := D
  have zD := cell_lt D0
  dsimp only at zD
  obtain ⟨S0, S1, _, _⟩ := S
  have zS := cell_lt S0
  dsimp only at zS
  go_wp2_with fail
  clear A0 A1 zA B0 B1 zB M0 M1 zM D0 D1 zD S0 S1 zS
  have A := A'
  clear A'
  have B := B'
  clear B'
  have M := M'
  clear M'
  have D := D'
  clear D'
  have S := S'
  clear S'
  refine (X4.out _ E).mono ?_
  rintro e w12 ⟨rfl, hE⟩
  replace E := E.trans hE
  replace A := A.ext hE
  replace B := B.ext hE
  replace M := M.ext hE
  replace D := D.ext hE
  replace S := S.ext hE
  clear hE
  have A' := A
  have B' := B
  have M' := M
  have D' := D
  have S' := S
  obtain ⟨A0, A1, _, _⟩ := A
  have zA := cell_lt A0
  dsimp only at zA
  obtain ⟨B0, B1, _, _⟩ := B
  have zB := cell_lt B0
  dsimp only at zB
  obtain ⟨M0, M1, _, _⟩ := M
  have zM := cell_lt M0
  dsimp only at zM
  obtain ⟨D0, D1, _, _⟩ := D
  have zD := cell_lt D0
  dsimp only at zD
  obtain ⟨S0, S1, _, _⟩ := S
  have zS := cell_lt S0
  dsimp only at zS
  go_wp2_with fail
  clear A0 A1 zA B0 B1 zB M0 M1 zM D0 D1 zD S0 S1 zS
  have A := A'
  clear A'
  have B := B'
  clear B'
  have M := M'
  clear M'
  have D := D'
  clear D'
  have S := S'
  clear S'
  refine (XO.out _ _ _).mono ?_
  rintro e w13 ⟨rfl, hE⟩
  replace E := E.trans hE
  replace A := A.ext hE
  replace B := B.ext hE
  replace M := M.ext hE
  replace D := D.ext hE
  replace S := S.ext hE
  clear hE
  have A' := A
  have B' := B
  have M' := M
  have D' := D
  have S' := S
  obtain ⟨A0, A1, _, _⟩ := A
  have zA := cell_lt A0
  dsimp only at zA
  obtain ⟨B0, B1, _, _⟩ := B
  have zB := cell_lt B0
  dsimp only at zB
  obtain ⟨M0, M1, _, _⟩ := M
  have zM := cell_lt M0
  dsimp only at zM
  obtain ⟨D0, D1, _, _⟩ := D
  have zD := cell_lt D0
  dsimp only at zD
  obtain ⟨S0, S1, _, _⟩ := S
  have zS := cell_lt S0
  dsimp only at zS
  go_wp2_with fail
  clear A0 A1 zA B0 B1 zB M0 M1 zM D0 D1 zD S0 S1 zS
  have A := A'
  clear A'
  have B := B'
  clear B'
  have M := M'
  clear M'
  have D := D'
  clear D'
  have S := S'
  clear S'
  refine (XO.out _ _ _).mono ?_
  rintro e w14 ⟨rfl, hE⟩
  replace E := E.trans hE
  replace A := A.ext hE
  replace B := B.ext hE
  replace M := M.ext hE
  replace D := D.ext hE
  replace S := S.ext hE
  clear hE
  have A' := A
  have B' := B
  have M' := M
  have D' := D
  have S' := S
  obtain ⟨A0, A1, _, _⟩ := A
  have zA := cell_lt A0
  dsimp only at zA
  obtain ⟨B0, B1, _, _⟩ := B
  have zB := cell_lt B0
  dsimp only at zB
  obtain ⟨M0, M1, _, _⟩ := M
  have zM := cell_lt M0
  dsimp only at zM
  obtain ⟨D0, D1, _, _⟩ := D
  have zD := cell_lt D0
  dsimp only at zD
  obtain ⟨S0, S1, _, _⟩ := S
  have zS := cell_lt S0
  dsimp only at zS
  go_wp2_with fail
  clear A0 A1 zA B0 B1 zB M0 M1 zM D0 D1 zD S0 S1 zS
  have A := A'
  clear A'
  have B := B'
  clear B'
  have M := M'
  clear M'
  have D := D'
  clear D'
  have S := S'
  clear S'
  refine (X5.out _ E).mono ?_
  rintro e w15 ⟨rfl, hE⟩
  replace E := E.trans hE
  replace A := A.ext hE
  replace B := B.ext hE
  replace M := M.ext hE
  replace D := D.ext hE
  replace S := S.ext hE
  clear hE
  have A' := A
  have B' := B
  have M' := M
  have D' := D
  have S' := S
  obtain ⟨A0, A1, _, _⟩ := A
  have zA := cell_lt A0
  dsimp only at zA
  obtain ⟨B0, B1, _, _⟩ := B
  have zB := cell_lt B0
  dsimp only at zB
  obtain ⟨M0, M1, _, _⟩ := M
  have zM := cell_lt M0
  dsimp only at zM
  obtain ⟨D0, D1, _, _⟩ := D
  have zD := cell_lt D0
  dsimp only at zD
  obtain ⟨S0, S1, _, _⟩ := S
  have zS := cell_lt S0
  dsimp only at zS
  go_wp2_with fail
  clear A0 A1 zA B0 B1 zB M0 M1 zM D0 D1 zD S0 S1 zS
  have A := A'
  clear A'
  have B := B'
  clear B'
  have M := M'
  clear M'
  have D := D'
  clear D'
  have S := S'
  clear S'
  refine (XO.out _ _ _).mono ?_
  rintro e w16 ⟨rfl, hE⟩
  replace E := E.trans hE
  replace A := A.ext hE
  replace B := B.ext hE
  replace M := M.ext hE
  replace D := D.ext hE
  replace S := S.ext hE
  clear hE
  have A' := A
  have B' := B
  have M' := M
  have D' := D
  have S' := S
  obtain ⟨A0, A1, _, _⟩ := A
  have zA := cell_lt A0
  dsimp only at zA
  obtain ⟨B0, B1, _, _⟩ := B
  have zB := cell_lt B0
  dsimp only at zB
  obtain ⟨M0, M1, _, _⟩ := M
  have zM := cell_lt M0
  dsimp only at zM
  obtain ⟨D0, D1, _, _⟩ := D
  have zD := cell_lt D0
  dsimp only at zD
  obtain ⟨S0, S1, _, _⟩ := S
  have zS := cell_lt S0
  dsimp only at zS
  go_wp2_with fail
  clear A0 A1 zA B0 B1 zB M0 M1 zM D0 D1 zD S0 S1 zS
  have A := A'
  clear A'
  have B := B'
  clear B'
  have M := M'
  clear M'
  have D := D'
  clear D'
  have S := S'
  clear S'
  refine (XO.out _ _ _).mono ?_
  rintro e w17 ⟨rfl, hE⟩
  replace E := E.trans hE
  replace A := A.ext hE
  replace B := B.ext hE
  replace M := M.ext hE
  replace D := D.ext hE
  replace S := S.ext hE
  clear hE
  have A' := A
  have B' := B
  have M' := M
  have D' := D
  have S' := S
  obtain ⟨A0, A1, _, _⟩ := A
  have zA := cell_lt A0
  dsimp only at zA
  obtain ⟨B0, B1, _, _⟩ := B
  have zB := cell_lt B0
  dsimp only at zB
  obtain ⟨M0, M1, _, _⟩ := M
  have zM := cell_lt M0
  dsimp only at zM
  obtain ⟨D0, D1, _, _⟩ := D
  have zD := cell_lt D0
  dsimp only at zD
  obtain ⟨S0, S1, _, _⟩ := S
  have zS := cell_lt S0
  dsimp only at zS
  go_wp2_with fail
  clear A0 A1 zA B0 B1 zB M0 M1 zM D0 D1 zD S0 S1 zS
  have A := A'
  clear A'
  have B := B'
  clear B'
  have M := M'
  clear M'
  have D := D'
  clear D'
  have S := S'
  clear S'
  refine (X6.out _ E).mono ?_
  rintro e w18 ⟨rfl, hE⟩
  replace E := E.trans hE
  replace A := A.ext hE
  replace B := B.ext hE
  replace M := M.ext hE
  replace D := D.ext hE
  replace S := S.ext hE
  clear hE
  have A' := A
  have B' := B
  have M' := M
  have D' := D
  have S' := S
  obtain ⟨A0, A1, _, _⟩ := A
  have zA := cell_lt A0
  dsimp only at zA
  obtain ⟨B0, B1, _, _⟩ := B
  have zB := cell_lt B0
  dsimp only at zB
  obtain ⟨M0, M1, _, _⟩ := M
  have zM := cell_lt M0
  dsimp only at zM
  obtain ⟨D0, D1, _, _⟩ := D
  have zD := cell_lt D0
  dsimp only at zD
  obtain ⟨S0, S1, _, _⟩ := S
  have zS := cell_lt S0
  dsimp only at zS
  have Y : EncAt (w18.heap.size) (w18.alloc (.cells #[txt [50, 47, 51], txt [50, 47, 51]] 24)) [50, 47, 51] [50, 47, 51] := ⟨by go_simp, by go_simp, by go_simp, by go_simp⟩
  have EA : Ext w18 (w18.alloc (.cells #[txt [50, 47, 51], txt [50, 47, 51]] 24)) := extA
  replace A' := A'.ext EA
  replace B' := B'.ext EA
  replace M' := M'.ext EA
  replace D' := D'.ext EA
  replace S' := S'.ext EA
  replace E := E.trans EA
  clear EA
  go_wp2_with fail
  clear A0 A1 zA B0 B1 zB M0 M1 zM D0 D1 zD S0 S1 zS
  have A := A'
  clear A'
  have B := B'
  clear B'
  have M := M'
  clear M'
  have D := D'
  clear D'
  have S := S'
  clear S'
  obtain ⟨bY, hbY⟩ : ∃ b, b = w18.heap.size := ⟨_, rfl⟩
  rw [← hbY] at Y ⊢
  generalize (w18.alloc (.cells #[txt [50, 47, 51], txt [50, 47, 51]] 24)) = w19 at A B M D S Y E ⊢
  clear hbY
  have hD : Ext w19 w19.drew := extA
  replace E := E.trans hD
  have hS : w19.drew.cell? ⟨bM, 0, none⟩ = some (txt [45, 49, 52]) ∧ w19.drew.cell? ⟨bM, 1, none⟩ = some (txt [50, 49]) ∧ w19.drew.cell? ⟨bD, 0, none⟩ = some (txt [45, 50, 47, 53]) ∧ w19.drew.cell? ⟨bD, 1, none⟩ = some (txt [51, 47, 53]) ∧ w19.drew.cell? ⟨bS, 0, none⟩ = some (txt [48]) ∧ w19.drew.cell? ⟨bS, 1, none⟩ = some (txt [57]) ∧ w19.drew.cell? ⟨bY, 0, none⟩ = some (txt [50, 47, 51]) ∧ w19.drew.cell? ⟨bY, 1, none⟩ = some (txt [50, 47, 51]) := ⟨hD.cell M.c0, hD.cell M.c1, hD.cell D.c0, hD.cell D.c1, hD.cell S.c0, hD.cell S.c1, hD.cell Y.c0, hD.cell Y.c1⟩
  have hw0 : IntKind.i64.wrap 0 = 0 := by decide
  refine wp_region_heldE 99 (fun w' => w'.cell? ⟨bM, 0, none⟩ = some (txt [45, 49, 52]) ∧ w'.cell? ⟨bM, 1, none⟩ = some (txt [50, 49]) ∧ w'.cell? ⟨bD, 0, none⟩ = some (txt [45, 50, 47, 53]) ∧ w'.cell? ⟨bD, 1, none⟩ = some (txt [51, 47, 53]) ∧ w'.cell? ⟨bS, 0, none⟩ = some (txt [48]) ∧ w'.cell? ⟨bS, 1, none⟩ = some (txt [57]) ∧ w'.cell? ⟨bY, 0, none⟩ = some (txt [50, 47, 51]) ∧ w'.cell? ⟨bY, 1, none⟩ = some (txt [50, 47, 51])) (by kernel_rfl) ?_
  clear hD A B M D S Y
  generalize w19.drew = v0 at E hS ⊢
  ((refine eTk 0 ?_); (refine eTk 1 ?_); (refine eTk 2 ?_); (refine eTk 3 ?_); (refine eTk 4 ?_); (refine eTk 5 ?_); (refine eTk 6 ?_); (refine eTk 7 ?_); (refine eTk 8 ?_); (refine eTk 9 ?_); (refine eTk 10 ?_); (refine eTk 11 ?_); (refine eTk 12 ?_); (refine eTk 13 ?_))
  (refine wpAnyE_one (i := 14) (o := ?_) ?_ (by kernel_rfl) (fun K hK => ?_); rotate_left; (focus ((simp only [List.getElem?_toArray, List.getElem?_cons_succ, List.getElem?_cons_zero]; exact rfl))); go_simp; go_at_call 52; refine (XO.out _ _ _).mono ?_; rintro e v1 ⟨rfl, hE⟩; go_wp2_with fail; refine hK.out _ _ ?_ (fun hHeld => ?_); rotate_left; clear hK K; (try simp only [Act.put, List.setIfInBounds_toArray, List.set_cons_zero, List.set_cons_succ]))
  rotate_left
  · exact ⟨hE.cell hS.1, hE.cell hS.2.1, hE.cell hS.2.2.1, hE.cell hS.2.2.2.1, hE.cell hS.2.2.2.2.1, hE.cell hS.2.2.2.2.2.1, hE.cell hS.2.2.2.2.2.2.1, hE.cell hS.2.2.2.2.2.2.2⟩
  replace E := E.trans hE
  replace hS : v1.cell? ⟨bM, 0, none⟩ = some (txt [45, 49, 52]) ∧ v1.cell? ⟨bM, 1, none⟩ = some (txt [50, 49]) ∧ v1.cell? ⟨bD, 0, none⟩ = some (txt [45, 50, 47, 53]) ∧ v1.cell? ⟨bD, 1, none⟩ = some (txt [51, 47, 53]) ∧ v1.cell? ⟨bS, 0, none⟩ = some (txt [48]) ∧ v1.cell? ⟨bS, 1, none⟩ = some (txt [57]) ∧ v1.cell? ⟨bY, 0, none⟩ = some (txt [50, 47, 51]) ∧ v1.cell? ⟨bY, 1, none⟩ = some (txt [50, 47, 51]) := ⟨hE.cell hS.1, hE.cell hS.2.1, hE.cell hS.2.2.1, hE.cell hS.2.2.2.1, hE.cell hS.2.2.2.2.1, hE.cell hS.2.2.2.2.2.1, hE.cell hS.2.2.2.2.2.2.1, hE.cell hS.2.2.2.2.2.2.2⟩
  clear hE hHeld
  ((refine eTk 15 ?_); (refine eTk 16 ?_); (refine eTk 17 ?_); (refine eTk 18 ?_))
  (refine wpAnyE_one (i := 19) (o := ?_) ?_ (by kernel_rfl) (fun K hK => ?_); rotate_left; (focus ((simp only [List.getElem?_toArray, List.getElem?_cons_succ, List.getElem?_cons_zero]; exact rfl))); go_simp; go_at_call 52; refine (XO.out _ _ _).mono ?_; rintro e v2 ⟨rfl, hE⟩; go_wp2_with fail; refine hK.out _ _ ?_ (fun hHeld => ?_); rotate_left; clear hK K; (try simp only [Act.put, List.setIfInBounds_toArray, List.set_cons_zero, List.set_cons_succ]))
  rotate_left
  · exact ⟨hE.cell hS.1, hE.cell hS.2.1, hE.cell hS.2.2.1, hE.cell hS.2.2.2.1, hE.cell hS.2.2.2.2.1, hE.cell hS.2.2.2.2.2.1, hE.cell hS.2.2.2.2.2.2.1, hE.cell hS.2.2.2.2.2.2.2⟩
  replace E := E.trans hE
  replace hS : v2.cell? ⟨bM, 0, none⟩ = some (txt [45, 49, 52]) ∧ v2.cell? ⟨bM, 1, none⟩ = some (txt [50, 49]) ∧ v2.cell? ⟨bD, 0, none⟩ = some (txt [45, 50, 47, 53]) ∧ v2.cell? ⟨bD, 1, none⟩ = some (txt [51, 47, 53]) ∧ v2.cell? ⟨bS, 0, none⟩ = some (txt [48]) ∧ v2.cell? ⟨bS, 1, none⟩ = some (txt [57]) ∧ v2.cell? ⟨bY, 0, none⟩ = some (txt [50, 47, 51]) ∧ v2.cell? ⟨bY, 1, none⟩ = some (txt [50, 47, 51]) := ⟨hE.cell hS.1, hE.cell hS.2.1, hE.cell hS.2.2.1, hE.cell hS.2.2.2.1, hE.cell hS.2.2.2.2.1, hE.cell hS.2.2.2.2.2.1, hE.cell hS.2.2.2.2.2.2.1, hE.cell hS.2.2.2.2.2.2.2⟩
  clear hE hHeld
  ((refine eTk 20 ?_); (refine eTk 21 ?_); (refine eTk 22 ?_); (refine eTk 23 ?_))
  (refine wpAnyE_one (i := 24) (o := ?_) ?_ (by kernel_rfl) (fun K hK => ?_); rotate_left; (focus ((simp only [List.getElem?_toArray, List.getElem?_cons_succ, List.getElem?_cons_zero]; exact rfl))); go_simp; go_at_call 52; refine (XO.out _ _ _).mono ?_; rintro e v3 ⟨rfl, hE⟩; go_wp2_with fail; refine hK.out _ _ ?_ (fun hHeld => ?_); rotate_left; clear hK K; (try simp only [Act.put, List.setIfInBounds_toArray, List.set_cons_zero, List.set_cons_succ]))
  rotate_left
  · exact ⟨hE.cell hS.1, hE.cell hS.2.1, hE.cell hS.2.2.1, hE.cell hS.2.2.2.1, hE.cell hS.2.2.2.2.1, hE.cell hS.2.2.2.2.2.1, hE.cell hS.2.2.2.2.2.2.1, hE.cell hS.2.2.2.2.2.2.2⟩
  replace E := E.trans hE
  replace hS : v3.cell? ⟨bM, 0, none⟩ = some (txt [45, 49, 52]) ∧ v3.cell? ⟨bM, 1, none⟩ = some (txt [50, 49]) ∧ v3.cell? ⟨bD, 0, none⟩ = some (txt [45, 50, 47, 53]) ∧ v3.cell? ⟨bD, 1, none⟩ = some (txt [51, 47, 53]) ∧ v3.cell? ⟨bS, 0, none⟩ = some (txt [48]) ∧ v3.cell? ⟨bS, 1, none⟩ = some (txt [57]) ∧ v3.cell? ⟨bY, 0, none⟩ = some (txt [50, 47, 51]) ∧ v3.cell? ⟨bY, 1, none⟩ = some (txt [50, 47, 51]) := ⟨hE.cell hS.1, hE.cell hS.2.1, hE.cell hS.2.2.1, hE.cell hS.2.2.2.1, hE.cell hS.2.2.2.2.1, hE.cell hS.2.2.2.2.2.1, hE.cell hS.2.2.2.2.2.2.1, hE.cell hS.2.2.2.2.2.2.2⟩
  clear hE hHeld
  ((refine eTk 25 ?_); (refine eTk 26 ?_); (refine eTk 27 ?_); (refine eTk 28 ?_); (refine eTk 29 ?_); (refine eTk 30 ?_); (refine eTk 31 ?_); (refine eTk 32 ?_); (refine eTk 33 ?_); (refine eTk 34 ?_); (refine eTk 35 ?_); (refine eTk 36 ?_); (refine eTk 37 ?_); (refine eTk 38 ?_); (refine eTk 39 ?_))
  (refine wpAnyE_one (i := 40) (o := ?_) ?_ (by kernel_rfl) (fun K hK => ?_); rotate_left; (focus ((simp only [List.getElem?_toArray, List.getElem?_cons_succ, List.getElem?_cons_zero]; exact rfl))); go_simp; go_at_call 52; refine (XO.out _ _ _).mono ?_; rintro e v4 ⟨rfl, hE⟩; go_wp2_with fail; refine hK.out _ _ ?_ (fun hHeld => ?_); rotate_left; clear hK K; (try simp only [Act.put, List.setIfInBounds_toArray, List.set_cons_zero, List.set_cons_succ]))
  rotate_left
  · exact ⟨hE.cell hS.1, hE.cell hS.2.1, hE.cell hS.2.2.1, hE.cell hS.2.2.2.1, hE.cell hS.2.2.2.2.1, hE.cell hS.2.2.2.2.2.1, hE.cell hS.2.2.2.2.2.2.1, hE.cell hS.2.2.2.2.2.2.2⟩
  replace E := E.trans hE
  replace hS : v4.cell? ⟨bM, 0, none⟩ = some (txt [45, 49, 52]) ∧ v4.cell? ⟨bM, 1, none⟩ = some (txt [50, 49]) ∧ v4.cell? ⟨bD, 0, none⟩ = some (txt [45, 50, 47, 53]) ∧ v4.cell? ⟨bD, 1, none⟩ = some (txt [51, 47, 53]) ∧ v4.cell? ⟨bS, 0, none⟩ = some (txt [48]) ∧ v4.cell? ⟨bS, 1, none⟩ = some (txt [57]) ∧ v4.cell? ⟨bY, 0, none⟩ = some (txt [50, 47, 51]) ∧ v4.cell? ⟨bY, 1, none⟩ = some (txt [50, 47, 51]) := ⟨hE.cell hS.1, hE.cell hS.2.1, hE.cell hS.2.2.1, hE.cell hS.2.2.2.1, hE.cell hS.2.2.2.2.1, hE.cell hS.2.2.2.2.2.1, hE.cell hS.2.2.2.2.2.2.1, hE.cell hS.2.2.2.2.2.2.2⟩
  clear hE hHeld
  ((refine eTk 41 ?_); (refine eTk 42 ?_); (refine eTk 43 ?_))
  (refine wpAnyE_one (i := 44) (o := ?_) ?_ (by kernel_rfl) (fun K hK => ?_); rotate_left; (focus ((simp only [List.getElem?_toArray, List.getElem?_cons_succ, List.getElem?_cons_zero]; exact rfl))); go_simp; go_at_call 59; refine (X7.out _).mono ?_; rintro e v5 ⟨rfl, hE⟩; go_wp2_with fail; refine hK.out _ _ ?_ (fun hHeld => ?_); rotate_left; clear hK K; (try simp only [Act.put, List.setIfInBounds_toArray, List.set_cons_zero, List.set_cons_succ]))
  rotate_left
  · exact ⟨hE.cell hS.1, hE.cell hS.2.1, hE.cell hS.2.2.1, hE.cell hS.2.2.2.1, hE.cell hS.2.2.2.2.1, hE.cell hS.2.2.2.2.2.1, hE.cell hS.2.2.2.2.2.2.1, hE.cell hS.2.2.2.2.2.2.2⟩
  replace E := E.trans hE
  replace hS : v5.cell? ⟨bM, 0, none⟩ = some (txt [45, 49, 52]) ∧ v5.cell? ⟨bM, 1, none⟩ = some (txt [50, 49]) ∧ v5.cell? ⟨bD, 0, none⟩ = some (txt [45, 50, 47, 53]) ∧ v5.cell? ⟨bD, 1, none⟩ = some (txt [51, 47, 53]) ∧ v5.cell? ⟨bS, 0, none⟩ = some (txt [48]) ∧ v5.cell? ⟨bS, 1, none⟩ = some (txt [57]) ∧ v5.cell? ⟨bY, 0, none⟩ = some (txt [50, 47, 51]) ∧ v5.cell? ⟨bY, 1, none⟩ = some (txt [50, 47, 51]) := ⟨hE.cell hS.1, hE.cell hS.2.1, hE.cell hS.2.2.1, hE.cell hS.2.2.2.1, hE.cell hS.2.2.2.2.1, hE.cell hS.2.2.2.2.2.1, hE.cell hS.2.2.2.2.2.2.1, hE.cell hS.2.2.2.2.2.2.2⟩
  clear hE hHeld
  (refine wpAnyE_one (i := 45) (o := ?_) ?_ (by kernel_rfl) (fun K hK => ?_); rotate_left; (focus ((simp only [List.getElem?_toArray, List.getElem?_cons_succ, List.getElem?_cons_zero]; exact rfl))); go_simp; go_at_call 52; refine (XO.out _ _ _).mono ?_; rintro e v6 ⟨rfl, hE⟩; go_wp2_with fail; refine hK.out _ _ ?_ (fun hHeld => ?_); rotate_left; clear hK K; (try simp only [Act.put, List.setIfInBounds_toArray, List.set_cons_zero, List.set_cons_succ]))
  rotate_left
  · exact ⟨hE.cell hS.1, hE.cell hS.2.1, hE.cell hS.2.2.1, hE.cell hS.2.2.2.1, hE.cell hS.2.2.2.2.1, hE.cell hS.2.2.2.2.2.1, hE.cell hS.2.2.2.2.2.2.1, hE.cell hS.2.2.2.2.2.2.2⟩
  replace E := E.trans hE
  replace hS : v6.cell? ⟨bM, 0, none⟩ = some (txt [45, 49, 52]) ∧ v6.cell? ⟨bM, 1, none⟩ = some (txt [50, 49]) ∧ v6.cell? ⟨bD, 0, none⟩ = some (txt [45, 50, 47, 53]) ∧ v6.cell? ⟨bD, 1, none⟩ = some (txt [51, 47, 53]) ∧ v6.cell? ⟨bS, 0, none⟩ = some (txt [48]) ∧ v6.cell? ⟨bS, 1, none⟩ = some (txt [57]) ∧ v6.cell? ⟨bY, 0, none⟩ = some (txt [50, 47, 51]) ∧ v6.cell? ⟨bY, 1, none⟩ = some (txt [50, 47, 51]) := ⟨hE.cell hS.1, hE.cell hS.2.1, hE.cell hS.2.2.1, hE.cell hS.2.2.2.1, hE.cell hS.2.2.2.2.1, hE.cell hS.2.2.2.2.2.1, hE.cell hS.2.2.2.2.2.2.1, hE.cell hS.2.2.2.2.2.2.2⟩
  clear hE hHeld
  ((refine eTk 46 ?_); (refine eTk 47 ?_))
  ((refine ePu 48 ?_))
  clear hS
  refine wpAnyE_done (by kernel_rfl) ?_ _
  go_wp2_with fail
  go_ret
  exact ⟨rfl, E⟩
end Go.Proofs.YtdejgaiocjfhjaaGreatDoor
namespace Go.Proofs.YtdejgaiocjfhjaaGreatDoor
open Go.RowKit
open Go.Lib (decDigits itoa)
def TrueP (w : World) (e : Ending) (w' : World) : Prop := e = .returned (.bool true) ∧ Ext w w'
end Go.Proofs.YtdejgaiocjfhjaaGreatDoor
namespace Go.Proofs.YtdejgaiocjfhjaaGreatDoor
open Go.ChangeShapes Go.WideShapes Go.ChangeAt Go.RowKit
theorem own : ownKnob Tryz.prog.godebug = none := by kernel_rfl
theorem gTab : Tryz.prog.globalNamed "internal/strconv.uint64pow10" = some 1 := by kernel_rfl
theorem gTabT : (Tryz.prog.globals[1]?).map (·.type) = some 236 := by kernel_rfl
theorem cellsTab : Tryz.prog.cellsOf 236 = 20 := by kernel_rfl
theorem cellsU64 : Tryz.prog.cellsOf 161 = 1 := by kernel_rfl
theorem gRng : Tryz.prog.globalNamed "strconv.ErrRange" = some 5 := by kernel_rfl
theorem gRngT : (Tryz.prog.globals[5]?).map (·.type) = some 178 := by kernel_rfl
theorem gSyn : Tryz.prog.globalNamed "strconv.ErrSyntax" = some 4 := by kernel_rfl
theorem gSynT : (Tryz.prog.globals[4]?).map (·.type) = some 178 := by kernel_rfl
theorem starE : "*" ++ "errors.errorString" = "*errors.errorString" := by decide
theorem rowE (u : TypeId) (h : Tryz.prog.typeName? 3 u = some "*errors.errorString") : u = 264 :=
  typeName_ptr_named (nm := "errors.errorString") (by rw [starE]; kernel_rfl) (by kernel_rfl) (by decide) u (by rw [starE]; exact h)
theorem cellsErr : Tryz.prog.cellsOf 266 = 1 := by kernel_rfl
theorem cellsStr : Tryz.prog.cellsOf 9 = 1 := by kernel_rfl
theorem glob_of {W : World} (hs : W.ShapedOpen Tryz.prog) (hL : laidMetH Tryz.prog Rows.enclosureSquaresRow.laid W) : Glob W := by
  have hP : laidMet Tryz.prog Rows.enclosureSquaresRow.laid W := by
    rw [← MakeChecks.laidMetH_plain _ _ _ (by kernel_rfl)]; exact hL
  have hP2 := hP.tail.tail
  have hP4 := hP2.tail.tail
  have hP5 := hP4.tail
  obtain ⟨a0, _, h0, _⟩ := laid_sentinel hP4 gRng gRngT Tryz.underlying178 rowE Tryz.underlying264 Tryz.underlying266 rfl rfl Tryz.underlying9 cellsErr cellsStr
  obtain ⟨a1, _, h1, _⟩ := laid_sentinel hP5 gSyn gSynT Tryz.underlying178 rowE Tryz.underlying264 Tryz.underlying266 rfl rfl Tryz.underlying9 cellsErr cellsStr
  exact ⟨cell_of_shapedOpen_int (zero := #[.int .i64 0]) (t := 3) hs (of_decide_eq_true (by kernel_rfl)) (by kernel_rfl) rfl (by kernel_rfl) (by kernel_rfl) Tryz.underlying3,
    Lib.tabIs_of_head gTab gTabT Tryz.underlying236 Tryz.underlying161 cellsU64 cellsTab hP2, ⟨_, _, h1⟩, ⟨_, _, h0⟩⟩
def flatD : Nat → DataW Unit → List Value
  | _ + 1, .lit (.int k z) => [.int k z]
  | n + 1, .agg ds => ds.flatMap (flatD n)
  | _, _ => []
def putC (cs : List Value) : Obj → Obj
  | .cells _ t frozen => .cells ⟨cs⟩ t frozen
  | o => o
noncomputable def lowB : Nat := (World.holding Tryz.prog default ⟨#[], #[], []⟩).heap.size
def rngS : ByteArray := ⟨#[118, 97, 108, 117, 101, 32, 111, 117, 116, 32, 111, 102, 32, 114, 97, 110, 103, 101]⟩
def synS : ByteArray := ⟨#[105, 110, 118, 97, 108, 105, 100, 32, 115, 121, 110, 116, 97, 120]⟩
noncomputable def laidWorld (os : Os) : World :=
  let w0 := World.holding Tryz.prog os ⟨#[.cells #[.string rngS] 266, .cells #[.string synS] 266], #[], []⟩
  { w0 with heap := (((((((w0.heap.modify 6 (putC (flatD 3 Rows.laid_math_bits_deBruijn32tab))).modify 7 (putC (flatD 3 Rows.laid_math_bits_deBruijn64tab))).modify
      1 (putC (flatD 3 Rows.laid_internal_strconv_uint64pow10))).modify 3 (putC (flatD 3 Rows.laid_unicode_utf8_acceptRanges))).modify
      5 (putC [.iface 264 (.pointer (some ⟨lowB, 0, none⟩))])).modify 4 (putC [.iface 264 (.pointer (some ⟨lowB + 1, 0, none⟩))])).modify
      2 (putC (flatD 3 Rows.laid_unicode_utf8_first))) }
theorem laid_met (os : Os) (args : Array Value) : laidMet Tryz.prog Rows.enclosureSquaresRow.laid ((laidWorld os).forCall (fun _ _ => 0) ⟨#[], args, []⟩).memory :=
  laidMet_of_run' 8 (by kernel_rfl) (by kernel_rfl)
end Go.Proofs.YtdejgaiocjfhjaaGreatDoor
namespace Go.Proofs.YtdejgaiocjfhjaaGreatDoor
open Go.RowKit Go.ChangeShapes Go.WideShapes Go.Joins Go.Deep
theorem laidOut : laidOutB Tryz.prog = true := by kernel_rfl
section
variable {H : Type} {enc : TypeId × Value → H} {w : World} {base : Nat} {spare : Nat → Bool} {held : Bool}
set_option maxRecDepth 100000 in
theorem open_enc {r : Reach} {b0 : Nat} {v : Value} {d : DataW H} {p : List MemPlace} (hv : Value.okWide Tryz.prog w r b0 24 v) (h : DataW.Trod enc Tryz.prog w base spare held 24 v d p) :
    ∃ a : Enc, v = encV a := by
  obtain ⟨c0, c1, y0, y1, n, rfl, _, _, h0, h1⟩ := open_agg2 Tryz.underlying24 (by kernel_rfl) (by kernel_rfl) hv h
  obtain ⟨⟨s0⟩, e0, _, _⟩ := DataW.trod_string Tryz.underlying22 h0
  obtain ⟨⟨s1⟩, e1, _, _⟩ := DataW.trod_string Tryz.underlying22 h1
  simp at e0 e1
  subst e0; subst e1
  exact ⟨(s0.toList, s1.toList), rfl⟩
end
end Go.Proofs.YtdejgaiocjfhjaaGreatDoor
namespace Go.Proofs.YtdejgaiocjfhjaaGreatDoor
open Go.RowKit Go.ChangeShapes Go.WideShapes Go.ChangeAt
theorem band {a b : Bool} (h : a = true) (k : b = true) : (a && b) = true := by rw [h, k]; rfl
theorem factLaid : laidOutB Tryz.pinned.checked.prog = true := by kernel_rfl
theorem factMaps : mapsRowed Tryz.pinned.checked.prog = true := by kernel_rfl
theorem factHeard : Tryz.pinned.checked.prog.stopsHeard = true := by kernel_rfl
theorem factEnter : Tryz.pinned.checked.prog.mayEnter = true := by kernel_rfl
theorem factLifts : (Rows.enclosureSquaresRow.lifted == Tryz.pinned.checked.prog.liftsFinal) = true := by kernel_rfl
theorem factMake : (Tryz.pinned.checked.prog.make == some Rows.enclosureSquaresRow.make) = true := by kernel_rfl
theorem factKeys : (Rows.enclosureSquaresRow.plainKeys == Tryz.pinned.checked.prog.plainKeys) = true := by kernel_rfl
end Go.Proofs.YtdejgaiocjfhjaaGreatDoor

