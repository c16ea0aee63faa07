/- Steps of the proof: FOpsR, ESpec, ELaw, ELaw2, ELaw3, ELaw4, ELaw5, EOrdP, FSumsP, EFour, FCmpF, EChk, FSums, EChd, EOrd, EOrd2, EOrd3, EOf, EPt, EHull, EFourE. No conditions. -/
import Derived.Test.YtdejgaiocjfhjaaGreatDoorZNB1
import Derived.Test.YtdejgaiocjfhjaaGreatDoorZNB2
import Derived.Test.YtdejgaiocjfhjaaGreatDoorZNB3
import Derived.Test.YtdejgaiocjfhjaaGreatDoorZNB4
import Derived.Test.YtdejgaiocjfhjaaGreatDoorZNB5
import Derived.Test.YtdejgaiocjfhjaaGreatDoorZNB6
import Derived.Test.YtdejgaiocjfhjaaGreatDoorZNB7
namespace Go.Proofs.YtdejgaiocjfhjaaGreatDoor
open Go.RowKit
open Go.Lib (decDigits itoa)
theorem pow60 : (1000000 : Nat) ^ 10 = 10 ^ 60 := by decide
theorem numOf_lenR {a : Txt} (h : fracE a = 0) : LenR 10 (numOf a) := by
  obtain ⟨h1, h2, h3, h4, h5, h6, _⟩ := frac_parts h
  rw [intV_abs] at h2
  exact ⟨toB_len (by omega) 10 (by rw [pow60]; exact h2), toB_len (by omega) 10 (by rw [pow60]; exact h5)⟩
theorem both_two {a b : Txt} (h : bothE a b = 0) : fracE a = 0 ∧ fracE b = 0 := by
  unfold bothE at h
  by_cases ea : fracE a = 0
  · rw [if_pos ea] at h; exact ⟨ea, h⟩
  · rw [if_neg ea] at h; exact absurd h ea
theorem sumN_lenR {k l : Nat} {x y : Num} (hx : LenR k x) (hy : LenR l y) : LenR (k + l + 1) (sumN x y) := by
  obtain ⟨s, t, d⟩ := x
  obtain ⟨r, p, q⟩ := y
  have m1 := mul_lenR hx.1 hy.2
  have m2 := mul_lenR hy.1 hx.2
  have m3 := mul_lenR hx.2 hy.2
  dsimp only at m1 m2 m3
  have e : sumN (s, t, d) (r, p, q) = if s = r then (s, t * q + p * d, d * q) else if p * d ≤ t * q then (s, t * q - p * d, d * q) else (r, p * d - t * q, d * q) := rfl
  have hp : (1000000 : Nat) ^ (k + l + 1) = 1000000 * 1000000 ^ (k + l) := by rw [Nat.pow_succ, Nat.mul_comm]
  have lt : ∀ {z j : Nat}, (toB 1000000 z).length ≤ j → z < 1000000 ^ j := fun {z j} h => by
    have h1 := valB_lt (okB_toB (B := 1000000) (by omega) z)
    rw [valB_toB (by omega)] at h1
    exact Nat.lt_of_lt_of_le h1 (Nat.pow_le_pow_right (by omega) h)
  have n1 := lt m1
  have n2 := lt m2
  rw [Nat.add_comm l k] at n2
  have h3 : (toB 1000000 (d * q)).length ≤ k + l + 1 := by omega
  rw [e]
  split
  · exact ⟨toB_len (by omega) _ (by dsimp only; omega), h3⟩
  · split
    · exact ⟨toB_len (by omega) _ (by dsimp only; omega), h3⟩
    · exact ⟨toB_len (by omega) _ (by dsimp only; omega), h3⟩
theorem add_num {a b : Txt} (ea : fracE a = 0) (eb : fracE b = 0) : addS a b = resQ (valQ (sumN (numOf a) (numOf b))) ∧ (sumN (numOf a) (numOf b)).2.2 ≠ 0 := by
  obtain ⟨h1, h2⟩ := sumN_val (numOf_len ea).2 (numOf_len eb).2
  refine ⟨?_, h2⟩
  unfold addS ifOk
  rw [if_pos (bothE_zero ea eb), h1, numOf_val, numOf_val]
theorem sub_num {a b : Txt} (ea : fracE a = 0) (eb : fracE b = 0) : subS a b = resQ (valQ (sumN (numOf a) (negN (numOf b)))) ∧ (sumN (numOf a) (negN (numOf b))).2.2 ≠ 0 := by
  obtain ⟨h1, h2⟩ := sumN_val (x := numOf a) (y := negN (numOf b)) (numOf_len ea).2 (numOf_len eb).2
  refine ⟨?_, h2⟩
  unfold subS ifOk
  rw [if_pos (bothE_zero ea eb), h1, negN_val, numOf_val, numOf_val, Rat.sub_eq_add_neg]
theorem cmp_num {a b : Txt} (ea : fracE a = 0) (eb : fracE b = 0) : (fracQ a - fracQ b).num.sign = signN (sumN (numOf a) (negN (numOf b))) := by
  obtain ⟨h1, h2⟩ := sumN_val (x := numOf a) (y := negN (numOf b)) (numOf_len ea).2 (numOf_len eb).2
  have h3 : valQ (sumN (numOf a) (negN (numOf b))) = fracQ a - fracQ b := by rw [h1, negN_val, numOf_val, numOf_val, Rat.sub_eq_add_neg]
  rw [← h3]
  unfold valQ signN
  exact num_sign h2
theorem mul_num {a b : Txt} (ea : fracE a = 0) (eb : fracE b = 0) : mulS a b = resQ (valQ (mulN (numOf a) (numOf b))) ∧ (mulN (numOf a) (numOf b)).2.2 ≠ 0 := by
  refine ⟨?_, Nat.mul_ne_zero (numOf_len ea).2 (numOf_len eb).2⟩
  unfold mulS ifOk
  rw [if_pos (bothE_zero ea eb), mulN_val, numOf_val, numOf_val]
theorem res_val (x : Num) : resQ (valQ x) = (madeT (numQ x.1 x.2.1 x.2.2), madeE (numQ x.1 x.2.1 x.2.2)) := rfl
theorem mulN_lenR {k l : Nat} {x y : Num} (hx : LenR k x) (hy : LenR l y) : LenR (k + l) (mulN x y) := ⟨mul_lenR hx.1 hy.1, mul_lenR hx.2 hy.2⟩
set_option maxHeartbeats 4000000 in
set_option maxRecDepth 100000 in
theorem rAdd_any (a b : Txt) (w : World) (ha : a.length ≤ 400) (hb : b.length ≤ 400) : Calls Tryz.prog 81 #[txt a, txt b] w (ResP (addS a b) w) := by
  have HB := Lib.hid (rBoth_any a b w ha hb)
  unfold ResP
  by_cases e0 : bothE a b = 0
  rotate_left
  · have HR : Hid (addS a b = ([], bothE a b)) := by show _ = _; unfold addS ifOk badR; rw [if_neg e0]
    have hne : (((bothE a b : Nat) : Int) != 0) = true := by rw [bne_iff_ne]; omega
    rw [HR.out]
    clear e0 HR
    generalize bothE a b = n at *
    go_enter Tryz.func81, Tryz.ntmps81
    go_wp2_with (go_at_call 117; with_reducible refine HB.out.mono ?_; rintro e w1 ⟨rfl, hE⟩)
    go_ret2
    exact ⟨rfl, hE⟩
  obtain ⟨ea, eb⟩ := both_two e0
  have HN1 := Lib.hid (fun W => numR_any a W ea ha)
  have HN2 := Lib.hid (fun W => numR_any b W eb hb)
  have HL1 := Lib.hid (numOf_lenR ea)
  have HL2 := Lib.hid (numOf_lenR eb)
  have HR := Lib.hid (add_num ea eb)
  rw [e0] at HB
  clear e0 ea eb
  rw [HR.out.1, res_val]
  generalize numOf a = NA at *
  generalize numOf b = NB at *
  have HLS := Lib.hid (sumN_lenR HL1.out HL2.out)
  obtain ⟨SN, hSN⟩ : ∃ SN, SN = sumN NA NB := ⟨_, rfl⟩
  rw [← hSN] at HR HLS ⊢
  have HSN := Lib.hid hSN
  clear hSN
  go_enter Tryz.func81, Tryz.ntmps81
  go_wp2_with (first
    | (go_at_call 117; with_reducible refine HB.out.mono ?_; rintro e w1 ⟨rfl, hE⟩)
    | (go_at_call 114; have hh := HN1; clear HN1; refine (hh.out _).mono ?_; clear hh; rintro e w2 ⟨v2, rfl, n2, e2⟩))
  go_wp2_with (go_at_call 114; refine (HN2.out _).mono ?_; rintro e w3 ⟨v3, rfl, n3, e3⟩)
  have E := (hE.trans e2).trans e3
  have n2 := n2.ext e3
  go_wp2_with (go_at_call 113; refine (rSum_any NA NB v2 v3 w3 n2 n3 (HL1.out.mono (by omega)) (HL2.out.mono (by omega))).mono ?_; rintro e w5 ⟨v5, rfl, n5, e5⟩)
  replace E := E.trans e5
  rw [← HSN.out] at n5
  go_wp2_with (go_at_call 116; refine (madeR_any SN.1 SN.2.1 SN.2.2 v5 w5 n5 HR.out.2 (Nat.le_trans HLS.out.1 (by omega)) (Nat.le_trans HLS.out.2 (by omega))).mono ?_; rintro e w6 ⟨rfl, e6⟩)
  go_ret2
  exact ⟨rfl, E.trans e6⟩
set_option maxHeartbeats 4000000 in
set_option maxRecDepth 100000 in
theorem rSub_any (a b : Txt) (w : World) (ha : a.length ≤ 400) (hb : b.length ≤ 400) : Calls Tryz.prog 78 #[txt a, txt b] w (ResP (subS a b) w) := by
  have HB := Lib.hid (rBoth_any a b w ha hb)
  unfold ResP
  by_cases e0 : bothE a b = 0
  rotate_left
  · have HR : Hid (subS a b = ([], bothE a b)) := by show _ = _; unfold subS ifOk badR; rw [if_neg e0]
    have hne : (((bothE a b : Nat) : Int) != 0) = true := by rw [bne_iff_ne]; omega
    rw [HR.out]
    clear e0 HR
    generalize bothE a b = n at *
    go_enter Tryz.func78, Tryz.ntmps78
    go_wp2_with (go_at_call 117; with_reducible refine HB.out.mono ?_; rintro e w1 ⟨rfl, hE⟩)
    go_ret2
    exact ⟨rfl, hE⟩
  obtain ⟨ea, eb⟩ := both_two e0
  have HN1 := Lib.hid (fun W => numR_any a W ea ha)
  have HN2 := Lib.hid (fun W => numR_any b W eb hb)
  have HL1 := Lib.hid (numOf_lenR ea)
  have HL2 := Lib.hid (numOf_lenR eb)
  have HR := Lib.hid (sub_num ea eb)
  rw [e0] at HB
  clear e0 ea eb
  rw [HR.out.1, res_val]
  generalize numOf a = NA at *
  generalize numOf b = NB at *
  have HLS := Lib.hid (sumN_lenR (y := negN NB) HL1.out HL2.out)
  obtain ⟨SN, hSN⟩ : ∃ SN, SN = sumN NA (negN NB) := ⟨_, rfl⟩
  rw [← hSN] at HR HLS ⊢
  have HSN := Lib.hid hSN
  clear hSN
  go_enter Tryz.func78, Tryz.ntmps78
  go_wp2_with (first
    | (go_at_call 117; with_reducible refine HB.out.mono ?_; rintro e w1 ⟨rfl, hE⟩)
    | (go_at_call 114; have hh := HN1; clear HN1; refine (hh.out _).mono ?_; clear hh; rintro e w2 ⟨v2, rfl, n2, e2⟩))
  go_wp2_with (go_at_call 114; refine (HN2.out _).mono ?_; rintro e w3 ⟨v3, rfl, n3, e3⟩)
  have E := (hE.trans e2).trans e3
  have n2 := n2.ext e3
  go_wp2_with (go_at_call 115; refine (rTurn_any NB v3 w3 n3).mono ?_; rintro e w4 ⟨v4, rfl, n4, e4⟩)
  replace E := E.trans e4
  replace n2 := n2.ext e4
  go_wp2_with (go_at_call 113; refine (rSum_any NA (negN NB) v2 v4 w4 n2 n4 (HL1.out.mono (by omega)) (HL2.out.mono (by omega))).mono ?_; rintro e w5 ⟨v5, rfl, n5, e5⟩)
  replace E := E.trans e5
  rw [← HSN.out] at n5
  go_wp2_with (go_at_call 116; refine (madeR_any SN.1 SN.2.1 SN.2.2 v5 w5 n5 HR.out.2 (Nat.le_trans HLS.out.1 (by omega)) (Nat.le_trans HLS.out.2 (by omega))).mono ?_; rintro e w6 ⟨rfl, e6⟩)
  go_ret2
  exact ⟨rfl, E.trans e6⟩
set_option maxHeartbeats 4000000 in
set_option maxRecDepth 100000 in
theorem rMul_any (a b : Txt) (w : World) (ha : a.length ≤ 400) (hb : b.length ≤ 400) : Calls Tryz.prog 75 #[txt a, txt b] w (ResP (mulS a b) w) := by
  have HB := Lib.hid (rBoth_any a b w ha hb)
  unfold ResP
  by_cases e0 : bothE a b = 0
  rotate_left
  · have HR : Hid (mulS a b = ([], bothE a b)) := by show _ = _; unfold mulS ifOk badR; rw [if_neg e0]
    have hne : (((bothE a b : Nat) : Int) != 0) = true := by rw [bne_iff_ne]; omega
    rw [HR.out]
    clear e0 HR
    generalize bothE a b = n at *
    go_enter Tryz.func75, Tryz.ntmps75
    go_wp2_with (go_at_call 117; with_reducible refine HB.out.mono ?_; rintro e w1 ⟨rfl, hE⟩)
    go_ret2
    exact ⟨rfl, hE⟩
  obtain ⟨ea, eb⟩ := both_two e0
  have HN1 := Lib.hid (fun W => numR_any a W ea ha)
  have HN2 := Lib.hid (fun W => numR_any b W eb hb)
  have HL1 := Lib.hid (numOf_lenR ea)
  have HL2 := Lib.hid (numOf_lenR eb)
  have HR := Lib.hid (mul_num ea eb)
  rw [e0] at HB
  clear e0 ea eb
  rw [HR.out.1, res_val]
  generalize numOf a = NA at *
  generalize numOf b = NB at *
  have HLS := Lib.hid (mulN_lenR HL1.out HL2.out)
  obtain ⟨SN, hSN⟩ : ∃ SN, SN = mulN NA NB := ⟨_, rfl⟩
  rw [← hSN] at HR HLS ⊢
  have HSN := Lib.hid hSN
  clear hSN
  go_enter Tryz.func75, Tryz.ntmps75
  go_wp2_with (first
    | (go_at_call 117; with_reducible refine HB.out.mono ?_; rintro e w1 ⟨rfl, hE⟩)
    | (go_at_call 114; have hh := HN1; clear HN1; refine (hh.out _).mono ?_; clear hh; rintro e w2 ⟨v2, rfl, n2, e2⟩))
  go_wp2_with (go_at_call 114; refine (HN2.out _).mono ?_; rintro e w3 ⟨v3, rfl, n3, e3⟩)
  have E := (hE.trans e2).trans e3
  have n2 := n2.ext e3
  go_wp2_with (go_at_call 118; refine (rProd_any NA NB v2 v3 w3 n2 n3 (HL1.out.mono (by omega)) (HL2.out.mono (by omega))).mono ?_; rintro e w5 ⟨v5, rfl, n5, e5⟩)
  replace E := E.trans e5
  rw [← HSN.out] at n5
  go_wp2_with (go_at_call 116; refine (madeR_any SN.1 SN.2.1 SN.2.2 v5 w5 n5 HR.out.2 (Nat.le_trans HLS.out.1 (by omega)) (Nat.le_trans HLS.out.2 (by omega))).mono ?_; rintro e w6 ⟨rfl, e6⟩)
  go_ret2
  exact ⟨rfl, E.trans e6⟩
set_option maxHeartbeats 4000000 in
set_option maxRecDepth 100000 in
theorem rOrder_any (a b : Txt) (w : World) (ea : fracE a = 0) (eb : fracE b = 0) (ha : a.length ≤ 400) (hb : b.length ≤ 400) :
    Calls Tryz.prog 72 #[txt a, txt b] w fun e w' => e = .returned (.int .i64 (fracQ a - fracQ b).num.sign) ∧ Ext w w' := by
  have HS := Lib.hid (cmp_num ea eb)
  have HN1 := Lib.hid (fun W => numR_any a W ea ha)
  have HN2 := Lib.hid (fun W => numR_any b W eb hb)
  have HL1 := Lib.hid (numOf_lenR ea)
  have HL2 := Lib.hid (numOf_lenR eb)
  rw [HS.out]
  clear HS ea eb
  generalize numOf a = NA at *
  generalize numOf b = NB at *
  obtain ⟨SN, hSN⟩ : ∃ SN, SN = sumN NA (negN NB) := ⟨_, rfl⟩
  rw [← hSN]
  have HSN := Lib.hid hSN
  clear hSN
  obtain ⟨s, t, d⟩ := SN
  by_cases h0 : t = 0
  · have hl : (((toB 1000000 t).length : Int) == 0) = true := by rw [lenR_zero h0]; rfl
    have HS : Hid (signN (s, t, d) = 0) := by show _ = _; unfold signN; rw [if_pos h0]
    clear h0
    go_enter Tryz.func72, Tryz.ntmps72
    go_wp2_with (go_at_call 114; have hh := HN1; clear HN1; refine (hh.out _).mono ?_; clear hh; rintro e w2 ⟨v2, rfl, n2, e2⟩)
    go_wp2_with (go_at_call 114; refine (HN2.out _).mono ?_; rintro e w3 ⟨v3, rfl, n3, e3⟩)
    have E := e2.trans e3
    have n2 := n2.ext e3
    go_wp2_with (go_at_call 115; refine (rTurn_any NB v3 w3 n3).mono ?_; rintro e w4 ⟨v4, rfl, n4, e4⟩)
    replace E := E.trans e4
    replace n2 := n2.ext e4
    go_wp2_with (go_at_call 113; refine (rSum_any NA (negN NB) v2 v4 w4 n2 n4 (HL1.out.mono (by omega)) (HL2.out.mono (by omega))).mono ?_; rintro e w5 ⟨v5, rfl, n5, e5⟩; rw [← HSN.out] at n5; obtain ⟨ta, tc, ba, bc, rfl, _, _⟩ := n5; dsimp only)
    replace E := E.trans e5
    go_ret
    exact ⟨ret_int HS.out.symm, extA⟩
  · have hl : (((toB 1000000 t).length : Int) == 0) = false := by rw [beq_eq_false_iff_ne]; have := lenR_pos h0; omega
    cases s
    · have HS : Hid (signN (false, t, d) = 1) := by show _ = _; unfold signN; rw [if_neg h0]; rfl
      clear h0
      go_enter Tryz.func72, Tryz.ntmps72
      go_wp2_with (go_at_call 114; have hh := HN1; clear HN1; refine (hh.out _).mono ?_; clear hh; rintro e w2 ⟨v2, rfl, n2, e2⟩)
      go_wp2_with (go_at_call 114; refine (HN2.out _).mono ?_; rintro e w3 ⟨v3, rfl, n3, e3⟩)
      have E := e2.trans e3
      have n2 := n2.ext e3
      go_wp2_with (go_at_call 115; refine (rTurn_any NB v3 w3 n3).mono ?_; rintro e w4 ⟨v4, rfl, n4, e4⟩)
      replace E := E.trans e4
      replace n2 := n2.ext e4
      go_wp2_with (go_at_call 113; refine (rSum_any NA (negN NB) v2 v4 w4 n2 n4 (HL1.out.mono (by omega)) (HL2.out.mono (by omega))).mono ?_; rintro e w5 ⟨v5, rfl, n5, e5⟩; rw [← HSN.out] at n5; obtain ⟨ta, tc, ba, bc, rfl, _, _⟩ := n5; dsimp only)
      replace E := E.trans e5
      go_ret
      exact ⟨ret_int HS.out.symm, extA⟩
    · have HS : Hid (signN (true, t, d) = -1) := by show _ = _; unfold signN; rw [if_neg h0]; rfl
      clear h0
      go_enter Tryz.func72, Tryz.ntmps72
      go_wp2_with (go_at_call 114; have hh := HN1; clear HN1; refine (hh.out _).mono ?_; clear hh; rintro e w2 ⟨v2, rfl, n2, e2⟩)
      go_wp2_with (go_at_call 114; refine (HN2.out _).mono ?_; rintro e w3 ⟨v3, rfl, n3, e3⟩)
      have E := e2.trans e3
      have n2 := n2.ext e3
      go_wp2_with (go_at_call 115; refine (rTurn_any NB v3 w3 n3).mono ?_; rintro e w4 ⟨v4, rfl, n4, e4⟩)
      replace E := E.trans e4
      replace n2 := n2.ext e4
      go_wp2_with (go_at_call 113; refine (rSum_any NA (negN NB) v2 v4 w4 n2 n4 (HL1.out.mono (by omega)) (HL2.out.mono (by omega))).mono ?_; rintro e w5 ⟨v5, rfl, n5, e5⟩; rw [← HSN.out] at n5; obtain ⟨ta, tc, ba, bc, rfl, _, _⟩ := n5; dsimp only)
      replace E := E.trans e5
      go_ret
      exact ⟨ret_int HS.out.symm, extA⟩
end Go.Proofs.YtdejgaiocjfhjaaGreatDoor
namespace Go.Proofs.YtdejgaiocjfhjaaGreatDoor
open Go.Lib (decDigits itoa)
abbrev Enc := Txt × Txt
abbrev EncR := Enc × Nat
def ordQ (a b : Txt) : Int := (fracQ a - fracQ b).num.sign
def encE (a : Enc) : Nat := if bothE a.1 a.2 = 0 then (if 0 < ordQ a.1 a.2 then 9 else 0) else bothE a.1 a.2
def bothEE (a b : Enc) : Nat := if encE a = 0 then encE b else encE a
def badEnc (e : Nat) : EncR := (([], []), e)
def endsR (r s : Res) : EncR := if r.2 ≠ 0 then badEnc r.2 else if s.2 ≠ 0 then badEnc s.2 else ((r.1, s.1), 0)
def inE (a : Enc) (x : Txt) : Bool := decide (ordQ a.1 x ≤ 0) && decide (ordQ x a.2 ≤ 0)
def containsE (a : Enc) (x : Txt) : Bool × Nat := if encE a ≠ 0 then (false, encE a) else if fracE x ≠ 0 then (false, fracE x) else (inE a x, 0)
def sureE (a b : Enc) : Int := if ordQ a.2 b.1 < 0 then -1 else if 0 < ordQ a.1 b.2 then 1 else 0
def compareE (a b : Enc) : Int × Nat := if bothEE a b ≠ 0 then (0, bothEE a b) else (sureE a b, 0)
def widthE (a : Enc) : Res := if encE a ≠ 0 then badR (encE a) else subS a.2 a.1
def withinE (a b : Enc) : Bool × Nat := if bothEE a b ≠ 0 then (false, bothEE a b) else (decide (ordQ b.1 a.1 ≤ 0) && decide (ordQ a.2 b.2 ≤ 0), 0)
def lowHull (a b : Enc) : Txt := if ordQ b.1 a.1 < 0 then b.1 else a.1
def highHull (a b : Enc) : Txt := if 0 < ordQ b.2 a.2 then b.2 else a.2
def hullE (a b : Enc) : EncR := if bothEE a b ≠ 0 then badEnc (bothEE a b) else ((lowHull a b, highHull a b), 0)
def lowMeet (a b : Enc) : Txt := if 0 < ordQ b.1 a.1 then b.1 else a.1
def highMeet (a b : Enc) : Txt := if ordQ b.2 a.2 < 0 then b.2 else a.2
def commonE (a b : Enc) : Enc × Bool := if 0 < ordQ (lowMeet a b) (highMeet a b) then (([], []), false) else ((lowMeet a b, highMeet a b), true)
def meetE (a b : Enc) : Enc × Bool × Nat := if bothEE a b ≠ 0 then (([], []), false, bothEE a b) else ((commonE a b).1, (commonE a b).2, 0)
def addE (a b : Enc) : EncR := if bothEE a b ≠ 0 then badEnc (bothEE a b) else endsR (addS a.1 b.1) (addS a.2 b.2)
def subE (a b : Enc) : EncR := if bothEE a b ≠ 0 then badEnc (bothEE a b) else endsR (subS a.1 b.2) (subS a.2 b.1)
def LenE (a : Enc) : Prop := a.1.length ≤ 400 ∧ a.2.length ≤ 400
theorem enc_right {a : Enc} (h : encE a = 0) : fracE a.1 = 0 ∧ fracE a.2 = 0 ∧ ordQ a.1 a.2 ≤ 0 := by
  unfold encE at h
  by_cases hb : bothE a.1 a.2 = 0
  · rw [if_pos hb] at h
    have h2 : fracE a.1 = 0 ∧ fracE a.2 = 0 := by
      unfold bothE at hb
      by_cases k : fracE a.1 = 0
      · rw [if_pos k] at hb; exact ⟨k, hb⟩
      · rw [if_neg k] at hb; exact absurd hb k
    refine ⟨h2.1, h2.2, ?_⟩
    by_cases h3 : 0 < ordQ a.1 a.2
    · rw [if_pos h3] at h; cases h
    · omega
  · rw [if_neg hb] at h
    exact absurd h hb
end Go.Proofs.YtdejgaiocjfhjaaGreatDoor
namespace Go.Proofs.YtdejgaiocjfhjaaGreatDoor
open Go.Lib (decDigits itoa)
def lo2 (x y : Rat) : Rat := if y < x then y else x
def hi2 (x y : Rat) : Rat := if x < y then y else x
def lo4 (a b c d : Rat) : Rat := lo2 (lo2 (lo2 a b) c) d
def hi4 (a b c d : Rat) : Rat := hi2 (hi2 (hi2 a b) c) d
theorem lo4_is {p a b c d : Rat} (ha : p ≤ a) (hb : p ≤ b) (hc : p ≤ c) (hd : p ≤ d) (h : p = a ∨ p = b ∨ p = c ∨ p = d) : lo4 a b c d = p := by
  unfold lo4 lo2; grind
theorem hi4_is {p a b c d : Rat} (ha : a ≤ p) (hb : b ≤ p) (hc : c ≤ p) (hd : d ≤ p) (h : p = a ∨ p = b ∨ p = c ∨ p = d) : hi4 a b c d = p := by
  unfold hi4 hi2; grind
theorem lo4_le (a b c d : Rat) : lo4 a b c d ≤ a ∧ lo4 a b c d ≤ b ∧ lo4 a b c d ≤ c ∧ lo4 a b c d ≤ d ∧ (lo4 a b c d = a ∨ lo4 a b c d = b ∨ lo4 a b c d = c ∨ lo4 a b c d = d) := by
  unfold lo4 lo2; grind
theorem le_hi4 (a b c d : Rat) : a ≤ hi4 a b c d ∧ b ≤ hi4 a b c d ∧ c ≤ hi4 a b c d ∧ d ≤ hi4 a b c d ∧ (hi4 a b c d = a ∨ hi4 a b c d = b ∨ hi4 a b c d = c ∨ hi4 a b c d = d) := by
  unfold hi4 hi2; grind
theorem mul_le {x y c : Rat} (h : x ≤ y) (hc : 0 ≤ c) : x * c ≤ y * c := by
  have := Rat.mul_nonneg (show 0 ≤ y - x by grind) hc
  grind
theorem mul_ge {x y c : Rat} (h : x ≤ y) (hc : c ≤ 0) : y * c ≤ x * c := by
  have := Rat.mul_nonneg (show 0 ≤ y - x by grind) (show 0 ≤ -c by grind)
  grind
theorem ends1 {a A b B : Rat} (h : a ≤ A) (k : b ≤ B) (hb : 0 ≤ b) :
    lo4 (a * b) (a * B) (A * b) (A * B) = a * (if a < 0 then B else b) ∧ hi4 (a * b) (a * B) (A * b) (A * B) = A * (if A < 0 then b else B) := by
  have h1 := mul_le h hb
  have h2 := mul_le h (Rat.le_trans hb k)
  have h3 : 0 ≤ a → a * b ≤ a * B := fun e => by have := mul_le k e; grind
  have h4 : a ≤ 0 → a * B ≤ a * b := fun e => by have := mul_ge k e; grind
  have h5 : 0 ≤ A → A * b ≤ A * B := fun e => by have := mul_le k e; grind
  have h6 : A ≤ 0 → A * B ≤ A * b := fun e => by have := mul_ge k e; grind
  constructor
  · split <;> exact lo4_is (by grind) (by grind) (by grind) (by grind) (by grind)
  · split <;> exact hi4_is (by grind) (by grind) (by grind) (by grind) (by grind)
theorem ends2 {a A b B : Rat} (h : a ≤ A) (k : b ≤ B) (hb : B ≤ 0) :
    lo4 (a * b) (a * B) (A * b) (A * B) = A * (if A < 0 then B else b) ∧ hi4 (a * b) (a * B) (A * b) (A * B) = a * (if a < 0 then b else B) := by
  have h1 := mul_ge h hb
  have h2 := mul_ge h (Rat.le_trans k hb)
  have h3 : 0 ≤ a → a * b ≤ a * B := fun e => by have := mul_le k e; grind
  have h4 : a ≤ 0 → a * B ≤ a * b := fun e => by have := mul_ge k e; grind
  have h5 : 0 ≤ A → A * b ≤ A * B := fun e => by have := mul_le k e; grind
  have h6 : A ≤ 0 → A * B ≤ A * b := fun e => by have := mul_ge k e; grind
  constructor
  · split <;> exact lo4_is (by grind) (by grind) (by grind) (by grind) (by grind)
  · split <;> exact hi4_is (by grind) (by grind) (by grind) (by grind) (by grind)
theorem ends3 {a A b B : Rat} (h : a ≤ A) (k : b ≤ B) (hb : b ≤ 0) (hB : 0 ≤ B) (ha : 0 ≤ a) :
    lo4 (a * b) (a * B) (A * b) (A * B) = A * b ∧ hi4 (a * b) (a * B) (A * b) (A * B) = A * B := by
  have h1 := mul_ge h hb
  have h2 := mul_le h hB
  have h3 := mul_le k ha
  have h4 := mul_le k (Rat.le_trans ha h)
  exact ⟨lo4_is (by grind) (by grind) (by grind) (by grind) (by grind), hi4_is (by grind) (by grind) (by grind) (by grind) (by grind)⟩
theorem ends4 {a A b B : Rat} (h : a ≤ A) (k : b ≤ B) (hb : b ≤ 0) (hB : 0 ≤ B) (ha : A ≤ 0) :
    lo4 (a * b) (a * B) (A * b) (A * B) = a * B ∧ hi4 (a * b) (a * B) (A * b) (A * B) = a * b := by
  have h1 := mul_ge h hb
  have h2 := mul_le h hB
  have h3 := mul_ge k ha
  have h4 := mul_ge k (Rat.le_trans h ha)
  exact ⟨lo4_is (by grind) (by grind) (by grind) (by grind) (by grind), hi4_is (by grind) (by grind) (by grind) (by grind) (by grind)⟩
theorem ends5 {a A b B : Rat} (hb : b ≤ 0) (hB : 0 ≤ B) (ha : a ≤ 0) (hA : 0 ≤ A) :
    lo4 (a * b) (a * B) (A * b) (A * B) = (if A * b < a * B then A * b else a * B) ∧ hi4 (a * b) (a * B) (A * b) (A * B) = (if a * b < A * B then A * B else a * b) := by
  have h1 := mul_ge ha hb
  have h2 := mul_le ha hB
  have h3 := mul_ge hA hb
  have h4 := mul_le hA hB
  constructor
  · split <;> exact lo4_is (by grind) (by grind) (by grind) (by grind) (by grind)
  · split <;> exact hi4_is (by grind) (by grind) (by grind) (by grind) (by grind)
theorem negS_top (a : Txt) : negS (topS a) = negS a := by
  unfold negS topS
  cases a with
  | nil => rfl
  | cons c a =>
    rw [List.takeWhile_cons]
    split
    · rfl
    · rename_i h
      have : c = 47 := by simpa using h
      subst this
      rfl
theorem negS_right {a : Txt} (h : fracE a = 0) : negS a = decide (fracQ a < 0) := by
  obtain ⟨⟨h1, h2⟩, _, _, _, _, _, _⟩ := frac_parts h
  obtain ⟨k1, _⟩ := frac_num h
  rw [← negS_top a]
  have e : fracQ a < 0 ↔ intV (topS a) < 0 := by rw [← num_neg_iff, k1]
  generalize topS a = s at *
  unfold intV at e
  cases hn : negS s
  · rw [hn] at e
    symm
    rw [decide_eq_false_iff_not, e]
    simp
  · rw [hn, if_pos rfl] at e
    symm
    rw [decide_eq_true_iff, e]
    have h4 : decV (bareS s) ≠ 0 := fun e => h2 (by rw [neg_cons hn, canon_zero h1 e])
    omega
theorem zero_right {a : Txt} (h : fracE a = 0) : (a == [48]) = decide (fracQ a = 0) := by
  by_cases e : a = [48]
  · subst e
    rw [decide_eq_true (by decide)]
    rfl
  · rw [decide_eq_false (fun k => e (frac_inj h (by decide) (by rw [k]; decide))), beq_eq_false_iff_ne]
    exact e
def prodLo (a b : Enc) : Rat := lo4 (fracQ a.1 * fracQ b.1) (fracQ a.1 * fracQ b.2) (fracQ a.2 * fracQ b.1) (fracQ a.2 * fracQ b.2)
def prodHi (a b : Enc) : Rat := hi4 (fracQ a.1 * fracQ b.1) (fracQ a.1 * fracQ b.2) (fracQ a.2 * fracQ b.1) (fracQ a.2 * fracQ b.2)
def quotLo (a b : Enc) : Rat := lo4 (fracQ a.1 / fracQ b.1) (fracQ a.1 / fracQ b.2) (fracQ a.2 / fracQ b.1) (fracQ a.2 / fracQ b.2)
def quotHi (a b : Enc) : Rat := hi4 (fracQ a.1 / fracQ b.1) (fracQ a.1 / fracQ b.2) (fracQ a.2 / fracQ b.1) (fracQ a.2 / fracQ b.2)
def has0 (b : Enc) : Bool := decide (fracQ b.1 ≤ 0) && decide (0 ≤ fracQ b.2)
def mulE (a b : Enc) : EncR := if bothEE a b ≠ 0 then badEnc (bothEE a b) else endsR (resQ (prodLo a b)) (resQ (prodHi a b))
def divE (a b : Enc) : EncR := if bothEE a b ≠ 0 then badEnc (bothEE a b) else if has0 b then badEnc 10 else endsR (resQ (quotLo a b)) (resQ (quotHi a b))
def sqLo (a : Enc) : Rat := if has0 a then 0 else lo2 (fracQ a.1 * fracQ a.1) (fracQ a.2 * fracQ a.2)
def sqHi (a : Enc) : Rat := hi2 (fracQ a.1 * fracQ a.1) (fracQ a.2 * fracQ a.2)
def squareE (a : Enc) : EncR := if encE a ≠ 0 then badEnc (encE a) else endsR (resQ (sqLo a)) (resQ (sqHi a))
theorem mulS_right {a b : Txt} (ha : fracE a = 0) (hb : fracE b = 0) : mulS a b = resQ (fracQ a * fracQ b) := by
  unfold mulS ifOk bothE
  rw [if_pos ha, if_pos hb]
theorem divS_right {a b : Txt} (ha : fracE a = 0) (hb : fracE b = 0) (h0 : fracQ b ≠ 0) : divS a b = resQ (fracQ a / fracQ b) := by
  unfold divS ifOk bothE
  rw [if_pos ha, if_pos hb, if_neg]
  rintro rfl
  exact h0 (by decide)
theorem enc_le {a : Enc} (h : encE a = 0) : fracQ a.1 ≤ fracQ a.2 := sgn_le.1 (enc_right h).2.2
theorem has0_not {b : Enc} (h : has0 b = false) (hb : encE b = 0) : (0 < fracQ b.1 ∧ 0 < fracQ b.2) ∨ (fracQ b.1 < 0 ∧ fracQ b.2 < 0) := by
  have k := enc_le hb
  unfold has0 at h
  simp only [Bool.and_eq_false_iff, decide_eq_false_iff_not] at h
  grind
end Go.Proofs.YtdejgaiocjfhjaaGreatDoor
namespace Go.Proofs.YtdejgaiocjfhjaaGreatDoor
open Go.Lib (decDigits itoa)
structure RightP (p : Txt × Txt) : Prop where
  x : fracE p.1 = 0
  y : fracE p.2 = 0
theorem len_right {a : Txt} (h : fracE a = 0) : a.length ≤ 400 := by
  obtain ⟨h1, h2, h3, h4, h5, _, _⟩ := frac_parts h
  have hb : (bareS (topS a)).length ≤ 60 := by
    rw [← canon_back h1.1]
    rw [intV_abs] at h2
    exact (digits_len_le _ 60 (by omega)).2 h2
  have hd : (lowS a).length ≤ 60 := by
    rw [← canon_back h3]
    exact (digits_len_le _ 60 (by omega)).2 h5
  have ht : (topS a).length ≤ (bareS (topS a)).length + 1 := by
    unfold bareS
    split
    · rw [List.length_tail]; omega
    · omega
  by_cases hs : 47 ∈ a
  · have e := congrArg List.length (split_some hs)
    rw [List.length_append, List.length_cons] at e
    omega
  · have e := (split_none hs).1
    rw [e] at ht hb
    omega
theorem ord_lt {a b : Txt} : ordQ a b < 0 ↔ fracQ a < fracQ b := sgn_lt
theorem ord_gt {a b : Txt} : 0 < ordQ a b ↔ fracQ b < fracQ a := by
  unfold ordQ
  rw [← sgn_lt, sgn_swap]; omega
theorem ord_le' {a b : Txt} : ordQ a b ≤ 0 ↔ fracQ a ≤ fracQ b := sgn_le
theorem inv_fit {q : Rat} (h : FitQ q) (h0 : q ≠ 0) : FitQ (1 / q) := by
  have e : (1 : Rat) / q = q⁻¹ := by rw [Rat.div_def, Rat.one_mul]
  rw [e]
  unfold FitQ at *
  rw [Rat.num_inv, Rat.den_inv]
  have hn : q.num ≠ 0 := fun e => h0 (Rat.num_eq_zero.1 e)
  refine ⟨?_, by rw [if_neg hn]; exact h.1⟩
  rw [Int.natAbs_mul, Int.natAbs_natCast, Int.natAbs_sign, if_neg hn]
  omega
theorem one_right : fracE [49] = 0 ∧ fracQ [49] = 1 := ⟨by decide, by decide⟩
theorem div_mul_one {x y : Rat} : x / y = x * (1 / y) := by
  rw [Rat.div_def, Rat.div_def, Rat.one_mul]
theorem inv_le {b B : Rat} (h : b ≤ B) (hs : 0 < b ∨ B < 0) : 1 / B ≤ 1 / b := by
  have hb : b ≠ 0 := by grind
  have hB : B ≠ 0 := by grind
  rcases hs with hs | hs
  · have h1 : 0 < 1 / b := by rw [Rat.div_def, Rat.one_mul]; exact Rat.inv_pos.2 hs
    have h2 : 0 < 1 / B := by rw [Rat.div_def, Rat.one_mul]; exact Rat.inv_pos.2 (by grind)
    have h3 := mul_le h (Rat.le_of_lt (Rat.mul_pos h1 h2))
    have e1 : b * (1 / b * (1 / B)) = 1 / B := by grind
    have e2 : B * (1 / b * (1 / B)) = 1 / b := by grind
    grind
  · have h1 : 0 < 1 / (-b) := by rw [Rat.div_def, Rat.one_mul]; exact Rat.inv_pos.2 (by grind)
    have h2 : 0 < 1 / (-B) := by rw [Rat.div_def, Rat.one_mul]; exact Rat.inv_pos.2 (by grind)
    have h3 := mul_le h (Rat.le_of_lt (Rat.mul_pos h1 h2))
    have e1 : b * (1 / (-b) * (1 / (-B))) = 1 / B := by grind
    have e2 : B * (1 / (-b) * (1 / (-B))) = 1 / b := by grind
    grind
def turnE (b : Enc) : Enc := (fracT (1 / fracQ b.2), fracT (1 / fracQ b.1))
theorem turn_right {b : Enc} (hb : encE b = 0) (h0 : has0 b = false) : endsR (divS [49] b.2) (divS [49] b.1) = (turnE b, 0) ∧ encE (turnE b) = 0 ∧
    fracQ (turnE b).1 = 1 / fracQ b.2 ∧ fracQ (turnE b).2 = 1 / fracQ b.1 := by
  obtain ⟨h1, h2, _⟩ := enc_right hb
  have hle := enc_le hb
  have hn := has0_not h0 hb
  have n1 : fracQ b.1 ≠ 0 := by grind
  have n2 : fracQ b.2 ≠ 0 := by grind
  have f1 := inv_fit (frac_fit h1) n1
  have f2 := inv_fit (frac_fit h2) n2
  obtain ⟨r1, q1⟩ := frac_of f1
  obtain ⟨r2, q2⟩ := frac_of f2
  have e : ∀ {q : Rat}, FitQ q → resQ q = (fracT q, 0) := fun h => by
    unfold resQ; rw [(made_fit h).1, (made_fit h).2]
  refine ⟨?_, ?_, q2, q1⟩
  · rw [divS_right one_right.1 h2 n2, divS_right one_right.1 h1 n1, one_right.2, e f1, e f2]
    rfl
  · unfold encE bothE turnE
    rw [if_pos r2, if_pos r1, if_neg]
    rw [ord_gt, q1, q2]
    have := inv_le hle (by grind)
    grind
theorem turn_prod {a b : Enc} (hb : encE b = 0) (h0 : has0 b = false) : prodLo a (turnE b) = quotLo a b ∧ prodHi a (turnE b) = quotHi a b := by
  obtain ⟨_, _, q1, q2⟩ := turn_right hb h0
  unfold prodLo prodHi quotLo quotHi
  rw [q1, q2]
  simp only [div_mul_one (x := fracQ a.1), div_mul_one (x := fracQ a.2)]
  generalize fracQ a.1 * (1 / fracQ b.1) = x
  generalize fracQ a.1 * (1 / fracQ b.2) = y
  generalize fracQ a.2 * (1 / fracQ b.1) = z
  generalize fracQ a.2 * (1 / fracQ b.2) = t
  obtain ⟨h1, h2, h3, h4, h5⟩ := lo4_le x y z t
  obtain ⟨k1, k2, k3, k4, k5⟩ := le_hi4 x y z t
  exact ⟨lo4_is h2 h1 h4 h3 (by grind), hi4_is k2 k1 k4 k3 (by grind)⟩
theorem prod_le (a b : Enc) : prodLo a b ≤ prodHi a b := by
  unfold prodLo prodHi
  have h1 := lo4_le (fracQ a.1 * fracQ b.1) (fracQ a.1 * fracQ b.2) (fracQ a.2 * fracQ b.1) (fracQ a.2 * fracQ b.2)
  have h2 := le_hi4 (fracQ a.1 * fracQ b.1) (fracQ a.1 * fracQ b.2) (fracQ a.2 * fracQ b.1) (fracQ a.2 * fracQ b.2)
  exact Rat.le_trans h1.1 h2.1
end Go.Proofs.YtdejgaiocjfhjaaGreatDoor
namespace Go.Proofs.YtdejgaiocjfhjaaGreatDoor
open Go.Lib (decDigits itoa)
structure GoodE (K : Nat) (a : Enc) (p q : Rat) : Prop where
  lo : Good K a.1 p
  hi : Good K a.2 q
  le : p ≤ q
def ShortR (a : Enc) : Prop := encE a = 0 ∧ a.1.length ≤ 10 ∧ a.2.length ≤ 10
theorem ShortR.good {a : Enc} (h : ShortR a) : GoodE 10 a (fracQ a.1) (fracQ a.2) :=
  ⟨Good.short (enc_right h.1).1 h.2.1, Good.short (enc_right h.1).2.1 h.2.2, enc_le h.1⟩
theorem GoodE.ok {K : Nat} {a : Enc} {p q : Rat} (h : GoodE K a p q) : encE a = 0 := by
  unfold encE bothE
  rw [if_pos h.lo.ok, if_pos h.hi.ok, if_neg]
  rw [ord_gt, h.lo.val, h.hi.val]
  have := h.le
  grind
theorem GoodE.both {K L : Nat} {a b : Enc} {p q r s : Rat} (h : GoodE K a p q) (k : GoodE L b r s) : bothEE a b = 0 := by
  unfold bothEE; rw [if_pos h.ok]; exact k.ok
def encT (p q : Rat) : Enc := (fracT p, fracT q)
theorem GoodE.of {K : Nat} {p q : Rat} (h : FitB K p) (k : FitB K q) (hK : K ≤ 60) (hl : p ≤ q) : endsR (resQ p) (resQ q) = (encT p q, 0) ∧ GoodE K (encT p q) p q := by
  obtain ⟨h1, h2⟩ := Good.of h hK
  obtain ⟨k1, k2⟩ := Good.of k hK
  refine ⟨?_, ⟨h2, k2, hl⟩⟩
  rw [h1, k1]; rfl
theorem add_le {p q r s : Rat} (h : p ≤ q) (k : r ≤ s) : p + r ≤ q + s := by grind
theorem sub_le {p q r s : Rat} (h : p ≤ q) (k : r ≤ s) : p - s ≤ q - r := by grind
theorem GoodE.add {K L : Nat} {a b : Enc} {p q r s : Rat} (h : GoodE K a p q) (k : GoodE L b r s) (hK : K + L + 1 ≤ 60) :
    addE a b = (encT (p + r) (q + s), 0) ∧ GoodE (K + L + 1) (encT (p + r) (q + s)) (p + r) (q + s) := by
  obtain ⟨h1, h2⟩ := h.lo.add k.lo hK
  obtain ⟨k1, k2⟩ := h.hi.add k.hi hK
  refine ⟨?_, ⟨h2, k2, add_le h.le k.le⟩⟩
  unfold addE
  rw [if_neg (not_not_intro (h.both k)), h1, k1]; rfl
theorem GoodE.sub {K L : Nat} {a b : Enc} {p q r s : Rat} (h : GoodE K a p q) (k : GoodE L b r s) (hK : K + L + 1 ≤ 60) :
    subE a b = (encT (p - s) (q - r), 0) ∧ GoodE (K + L + 1) (encT (p - s) (q - r)) (p - s) (q - r) := by
  obtain ⟨h1, h2⟩ := h.lo.sub k.hi hK
  obtain ⟨k1, k2⟩ := h.hi.sub k.lo hK
  refine ⟨?_, ⟨h2, k2, sub_le h.le k.le⟩⟩
  unfold subE
  rw [if_neg (not_not_intro (h.both k)), h1, k1]; rfl
theorem fit_lo4 {K : Nat} {a b c d : Rat} (ha : FitB K a) (hb : FitB K b) (hc : FitB K c) (hd : FitB K d) : FitB K (lo4 a b c d) := by
  rcases (lo4_le a b c d).2.2.2.2 with e | e | e | e <;> rw [e] <;> assumption
theorem fit_hi4 {K : Nat} {a b c d : Rat} (ha : FitB K a) (hb : FitB K b) (hc : FitB K c) (hd : FitB K d) : FitB K (hi4 a b c d) := by
  rcases (le_hi4 a b c d).2.2.2.2 with e | e | e | e <;> rw [e] <;> assumption
theorem GoodE.mul {K L : Nat} {a b : Enc} {p q r s : Rat} (h : GoodE K a p q) (k : GoodE L b r s) (hK : K + L ≤ 60) :
    mulE a b = (encT (prodLo a b) (prodHi a b), 0) ∧ GoodE (K + L) (encT (prodLo a b) (prodHi a b)) (prodLo a b) (prodHi a b) := by
  have e1 := h.lo.val
  have e2 := h.hi.val
  have e3 := k.lo.val
  have e4 := k.hi.val
  have f1 : FitB (K + L) (prodLo a b) := by
    unfold prodLo; rw [e1, e2, e3, e4]
    exact fit_lo4 (h.lo.fit.mul k.lo.fit) (h.lo.fit.mul k.hi.fit) (h.hi.fit.mul k.lo.fit) (h.hi.fit.mul k.hi.fit)
  have f2 : FitB (K + L) (prodHi a b) := by
    unfold prodHi; rw [e1, e2, e3, e4]
    exact fit_hi4 (h.lo.fit.mul k.lo.fit) (h.lo.fit.mul k.hi.fit) (h.hi.fit.mul k.lo.fit) (h.hi.fit.mul k.hi.fit)
  obtain ⟨h1, h2⟩ := GoodE.of f1 f2 hK (prod_le a b)
  refine ⟨?_, h2⟩
  unfold mulE
  rw [if_neg (not_not_intro (h.both k)), h1]
theorem GoodE.contains {K L : Nat} {a : Enc} {x : Txt} {p q r : Rat} (h : GoodE K a p q) (k : Good L x r) (h1 : p ≤ r) (h2 : r ≤ q) : containsE a x = (true, 0) := by
  unfold containsE inE
  rw [if_neg (not_not_intro h.ok), if_neg (not_not_intro k.ok), decide_eq_true, decide_eq_true]
  · rfl
  · rw [ord_le', h.hi.val, k.val]; exact h2
  · rw [ord_le', h.lo.val, k.val]; exact h1
theorem GoodE.within {K L : Nat} {a b : Enc} {p q r s : Rat} (h : GoodE K a p q) (k : GoodE L b r s) (h1 : r ≤ p) (h2 : q ≤ s) : withinE a b = (true, 0) := by
  unfold withinE
  rw [if_neg (not_not_intro (h.both k)), decide_eq_true, decide_eq_true]
  · rfl
  · rw [ord_le', h.hi.val, k.hi.val]; exact h2
  · rw [ord_le', h.lo.val, k.lo.val]; exact h1
def sureQ (p q r s : Rat) : Int := if q < r then -1 else if s < p then 1 else 0
theorem GoodE.compare {K L : Nat} {a b : Enc} {p q r s : Rat} (h : GoodE K a p q) (k : GoodE L b r s) : compareE a b = (sureQ p q r s, 0) := by
  unfold compareE sureE sureQ
  rw [if_neg (not_not_intro (h.both k))]
  congr 1
  have e1 : ordQ a.2 b.1 < 0 ↔ q < r := by rw [ord_lt, h.hi.val, k.lo.val]
  have e2 : 0 < ordQ a.1 b.2 ↔ s < p := by rw [ord_gt, h.lo.val, k.hi.val]
  simp only [e1, e2]
theorem GoodE.mono {K L : Nat} {a : Enc} {p q : Rat} (h : GoodE K a p q) (hk : K ≤ L) : GoodE L a p q := ⟨⟨h.lo.ok, h.lo.val, h.lo.fit.mono hk⟩, ⟨h.hi.ok, h.hi.val, h.hi.fit.mono hk⟩, h.le⟩
theorem GoodE.hull {K : Nat} {a b : Enc} {p q r s : Rat} (h : GoodE K a p q) (k : GoodE K b r s) :
    hullE a b = ((lowHull a b, highHull a b), 0) ∧ GoodE K (lowHull a b, highHull a b) (lo2 p r) (hi2 q s) := by
  have e1 : ordQ b.1 a.1 < 0 ↔ r < p := by rw [ord_lt, h.lo.val, k.lo.val]
  have e2 : 0 < ordQ b.2 a.2 ↔ q < s := by rw [ord_gt, h.hi.val, k.hi.val]
  have hl := h.le
  have kl := k.le
  refine ⟨by unfold hullE; rw [if_neg (not_not_intro (h.both k))], ?_, ?_, ?_⟩
  · unfold lowHull lo2; dsimp only; simp only [e1]
    split
    · exact k.lo
    · exact h.lo
  · unfold highHull hi2; dsimp only; simp only [e2]
    split
    · exact k.hi
    · exact h.hi
  · unfold lo2 hi2; grind
def withinQ (p q : Rat) (k : Nat) : Rat := p + (k : Rat) / (255 : Nat) * (q - p)
theorem within_le {p q : Rat} (h : p ≤ q) {k : Nat} (hk : k ≤ 255) : p ≤ withinQ p q k ∧ withinQ p q k ≤ q := by
  unfold withinQ
  have hk0 : (0 : Rat) ≤ (k : Rat) := by exact_mod_cast Nat.zero_le k
  have hk1 : (k : Rat) ≤ ((255 : Nat) : Rat) := by exact_mod_cast hk
  generalize (k : Rat) = c at *
  have h1 := Rat.mul_nonneg hk0 (show 0 ≤ q - p by grind)
  have h2 := Rat.mul_nonneg (show 0 ≤ ((255 : Nat) : Rat) - c by grind) (show 0 ≤ q - p by grind)
  have e : c / ((255 : Nat) : Rat) * (q - p) * ((255 : Nat) : Rat) = c * (q - p) := by grind
  generalize c / ((255 : Nat) : Rat) * (q - p) = x at *
  constructor <;> grind
end Go.Proofs.YtdejgaiocjfhjaaGreatDoor
namespace Go.Proofs.YtdejgaiocjfhjaaGreatDoor
open Go.Lib (decDigits itoa)
theorem within_mono {p q : Rat} (h : p ≤ q) {k l : Nat} (hk : k ≤ l) : withinQ p q k ≤ withinQ p q l := by
  unfold withinQ
  have hk1 : (k : Rat) ≤ (l : Rat) := by exact_mod_cast hk
  generalize (k : Rat) = c at *
  generalize (l : Rat) = d at *
  have h1 := Rat.mul_nonneg (show 0 ≤ d - c by grind) (show 0 ≤ q - p by grind)
  have e : (d / ((255 : Nat) : Rat) * (q - p) - c / ((255 : Nat) : Rat) * (q - p)) * ((255 : Nat) : Rat) = (d - c) * (q - p) := by grind
  generalize c / ((255 : Nat) : Rat) * (q - p) = x at *
  generalize d / ((255 : Nat) : Rat) * (q - p) = y at *
  grind
theorem num_den (p : Rat) : (p.num : Rat) = p * (p.den : Rat) := by
  have := Rat.mkRat_self p
  rw [Rat.mkRat_eq_div] at this
  have hd : (p.den : Rat) ≠ 0 := by exact_mod_cast p.den_nz
  grind
theorem within_fit {p q : Rat} (hp : FitB 10 p) (hq : FitB 10 q) {k : Nat} (hk : k ≤ 255) : FitB 23 (withinQ p q k) := by
  have e : withinQ p q k = mkRat (p.num * q.den * 255 + k * (q.num * p.den - p.num * q.den)) (255 * (p.den * q.den)) := by
    rw [Rat.mkRat_eq_div]
    have h1 := num_den p
    have h2 := num_den q
    have hd : (p.den : Rat) ≠ 0 := by exact_mod_cast p.den_nz
    have hd2 : (q.den : Rat) ≠ 0 := by exact_mod_cast q.den_nz
    have e1 : ((p.num * q.den * 255 + k * (q.num * p.den - p.num * q.den) : Int) : Rat) = (p.num : Rat) * (q.den : Rat) * 255 + (k : Rat) * ((q.num : Rat) * (p.den : Rat) - (p.num : Rat) * (q.den : Rat)) := by
      push_cast; rfl
    have e2 : ((255 * (p.den * q.den) : Nat) : Rat) = 255 * ((p.den : Rat) * (q.den : Rat)) := by push_cast; rfl
    rw [e1, e2, h1, h2]
    unfold withinQ
    have e3 : ((255 : Nat) : Rat) = 255 := rfl
    rw [e3]
    grind
  rw [e]
  have h1 := pow_mul_lt hp.1 hq.2
  have h2 := pow_mul_lt hq.1 hp.2
  have h3 := pow_mul_lt hp.2 hq.2
  refine fit_mk ?_ ?_ ?_
  · exact Nat.mul_ne_zero (by omega) (Nat.mul_ne_zero p.den_nz q.den_nz)
  · have a1 := Int.natAbs_add_le (p.num * q.den * 255) (k * (q.num * p.den - p.num * q.den))
    have a2 := Int.natAbs_sub_le (q.num * p.den) (p.num * q.den)
    rw [Int.natAbs_mul (p.num * q.den), Int.natAbs_mul (k : Int)] at a1
    simp only [Int.natAbs_mul, Int.natAbs_natCast] at a1 a2
    have a3 := Nat.mul_le_mul hk a2
    generalize (q.num * p.den - p.num * q.den).natAbs = z at *
    generalize p.num.natAbs * q.den = x at *
    generalize q.num.natAbs * p.den = y at *
    have a4 := Nat.mul_le_mul hk (Nat.le_refl z)
    simp only [show (255 : Int).natAbs = 255 from rfl] at a1
    have e5 : (10 : Nat) ^ (10 + 10) = 100000000000000000000 := by decide
    have e6 : (10 : Nat) ^ 23 = 100000000000000000000000 := by decide
    rw [e5] at *
    rw [e6]
    omega
  · generalize p.den * q.den = x at *
    have e5 : (10 : Nat) ^ (10 + 10) = 100000000000000000000 := by decide
    have e6 : (10 : Nat) ^ 23 = 100000000000000000000000 := by decide
    rw [e5] at *
    rw [e6]
    omega
def withinT (a : Enc) (k : Nat) : Txt := fracT (withinQ (fracQ a.1) (fracQ a.2) k)
theorem ShortR.within {a : Enc} (h : ShortR a) {k : Nat} (hk : k ≤ 255) : Good 23 (withinT a k) (withinQ (fracQ a.1) (fracQ a.2) k) :=
  (Good.of (within_fit h.good.lo.fit h.good.hi.fit hk) (by omega)).2
theorem prod_in {p q r s x y : Rat} (h1 : p ≤ x) (h2 : x ≤ q) (k1 : r ≤ y) (k2 : y ≤ s) : lo4 (p * r) (p * s) (q * r) (q * s) ≤ x * y ∧ x * y ≤ hi4 (p * r) (p * s) (q * r) (q * s) := by
  obtain ⟨a1, a2, a3, a4, _⟩ := lo4_le (p * r) (p * s) (q * r) (q * s)
  obtain ⟨b1, b2, b3, b4, _⟩ := le_hi4 (p * r) (p * s) (q * r) (q * s)
  generalize lo4 (p * r) (p * s) (q * r) (q * s) = m at *
  generalize hi4 (p * r) (p * s) (q * r) (q * s) = M at *
  have key : ∀ z, m ≤ z * r → m ≤ z * s → z * r ≤ M → z * s ≤ M → m ≤ z * y ∧ z * y ≤ M := fun z c1 c2 c3 c4 => by
    rcases (Rat.le_total : 0 ≤ z ∨ z ≤ 0) with hz | hz
    · have d1 := mul_le k1 hz
      have d2 := mul_le k2 hz
      grind
    · have d1 := mul_ge k1 hz
      have d2 := mul_ge k2 hz
      grind
  obtain ⟨c1, c2⟩ := key p a1 a2 b1 b2
  obtain ⟨c3, c4⟩ := key q a3 a4 b3 b4
  rcases (Rat.le_total : 0 ≤ y ∨ y ≤ 0) with hz | hz
  · have d1 := mul_le h1 hz
    have d2 := mul_le h2 hz
    grind
  · have d1 := mul_ge h1 hz
    have d2 := mul_ge h2 hz
    grind
end Go.Proofs.YtdejgaiocjfhjaaGreatDoor
namespace Go.Proofs.YtdejgaiocjfhjaaGreatDoor
open Go.Lib (decDigits itoa)
theorem Good.len {K : Nat} {t : Txt} {q : Rat} (h : Good K t q) : t.length ≤ 400 := len_right h.ok
theorem GoodE.len {K : Nat} {a : Enc} {p q : Rat} (h : GoodE K a p q) : LenE a := ⟨h.lo.len, h.hi.len⟩
structure InR (r : EncR) (o : Res) : Prop where
  e : r.2 = 0
  f : o.2 = 0
  c : containsE r.1 o.1 = (true, 0)
  l : LenE r.1
  m : o.1.length ≤ 400
theorem narrow_good {a : Enc} (ha : ShortR a) {k l : Nat} (hkl : k ≤ l) (hl : l ≤ 255) :
    GoodE 23 (withinT a k, withinT a l) (withinQ (fracQ a.1) (fracQ a.2) k) (withinQ (fracQ a.1) (fracQ a.2) l) :=
  ⟨ha.within (Nat.le_trans hkl hl), ha.within hl, within_mono ha.good.le hkl⟩
structure NarR (r s : EncR) : Prop where
  e : r.2 = 0
  f : s.2 = 0
  c : withinE r.1 s.1 = (true, 0)
  l : LenE r.1
  m : LenE s.1
structure Narrow (a b n : Enc) : Prop where
  len : LenE n
  inn : withinE n a = (true, 0)
  ab : (compareE a b).2 = 0
  nb : (compareE n b).2 = 0
  same : (compareE a b).1 ≠ 0 → (compareE n b).1 = (compareE a b).1
  add : NarR (addE n b) (addE a b)
  sub : NarR (subE n b) (subE a b)
  mul : NarR (mulE n b) (mulE a b)
  hull : NarR (hullE n b) (hullE a b)
theorem law_narrow {a b : Enc} (ha : ShortR a) (hb : ShortR b) {k l : Nat} (hkl : k ≤ l) (hl : l ≤ 255) : Narrow a b (withinT a k, withinT a l) := by
  have hn := narrow_good ha hkl hl
  have w1 := (within_le ha.good.le (Nat.le_trans hkl hl)).1
  have w2 := (within_le ha.good.le hl).2
  have ga := ha.good
  have gb := hb.good
  have c1 := ga.compare gb
  have c2 := hn.compare gb
  have hle := hn.le
  obtain ⟨a1, a2⟩ := hn.add gb (by omega)
  obtain ⟨a3, a4⟩ := ga.add gb (by omega)
  obtain ⟨s1, s2⟩ := hn.sub gb (by omega)
  obtain ⟨s3, s4⟩ := ga.sub gb (by omega)
  obtain ⟨m1, m2⟩ := hn.mul gb (by omega)
  obtain ⟨m3, m4⟩ := ga.mul gb (by omega)
  obtain ⟨u1, u2⟩ := hn.hull (gb.mono (L := 23) (by omega))
  obtain ⟨u3, u4⟩ := ga.hull gb
  refine ⟨hn.len, hn.within ga w1 w2, by rw [c1], by rw [c2], ?_, ?_, ?_, ?_, ?_⟩
  · rw [c1, c2]
    unfold sureQ
    have := ga.le
    have := gb.le
    dsimp only
    intro h
    by_cases h1 : fracQ a.2 < fracQ b.1
    · rw [if_pos h1, if_pos (by grind)]
    · rw [if_neg h1] at h ⊢
      by_cases h2 : fracQ b.2 < fracQ a.1
      · rw [if_pos h2, if_neg (by grind), if_pos (by grind)]
      · rw [if_neg h2] at h; exact absurd rfl h
  · rw [a1, a3]
    exact ⟨rfl, rfl, a2.within a4 (add_le w1 Rat.le_refl) (add_le w2 Rat.le_refl), a2.len, a4.len⟩
  · rw [s1, s3]
    exact ⟨rfl, rfl, s2.within s4 (sub_le w1 Rat.le_refl) (sub_le w2 Rat.le_refl), s2.len, s4.len⟩
  · rw [m1, m3]
    refine ⟨rfl, rfl, m2.within m4 ?_ ?_, m2.len, m4.len⟩
    · have p1 := (prod_in w1 (Rat.le_trans hle w2) (Rat.le_refl (a := fracQ b.1)) gb.le).1
      have p2 := (prod_in w1 (Rat.le_trans hle w2) gb.le (Rat.le_refl (a := fracQ b.2))).1
      have p3 := (prod_in (Rat.le_trans w1 hle) w2 (Rat.le_refl (a := fracQ b.1)) gb.le).1
      have p4 := (prod_in (Rat.le_trans w1 hle) w2 gb.le (Rat.le_refl (a := fracQ b.2))).1
      unfold prodLo
      rw [hn.lo.val, hn.hi.val]
      rcases (lo4_le (withinQ (fracQ a.1) (fracQ a.2) k * fracQ b.1) (withinQ (fracQ a.1) (fracQ a.2) k * fracQ b.2) (withinQ (fracQ a.1) (fracQ a.2) l * fracQ b.1) (withinQ (fracQ a.1) (fracQ a.2) l * fracQ b.2)).2.2.2.2 with e | e | e | e <;> rw [e] <;> assumption
    · have p1 := (prod_in w1 (Rat.le_trans hle w2) (Rat.le_refl (a := fracQ b.1)) gb.le).2
      have p2 := (prod_in w1 (Rat.le_trans hle w2) gb.le (Rat.le_refl (a := fracQ b.2))).2
      have p3 := (prod_in (Rat.le_trans w1 hle) w2 (Rat.le_refl (a := fracQ b.1)) gb.le).2
      have p4 := (prod_in (Rat.le_trans w1 hle) w2 gb.le (Rat.le_refl (a := fracQ b.2))).2
      unfold prodHi
      rw [hn.lo.val, hn.hi.val]
      rcases (le_hi4 (withinQ (fracQ a.1) (fracQ a.2) k * fracQ b.1) (withinQ (fracQ a.1) (fracQ a.2) k * fracQ b.2) (withinQ (fracQ a.1) (fracQ a.2) l * fracQ b.1) (withinQ (fracQ a.1) (fracQ a.2) l * fracQ b.2)).2.2.2.2 with e | e | e | e <;> rw [e] <;> assumption
  · rw [u1, u3]
    refine ⟨rfl, rfl, u2.within u4 ?_ ?_, u2.len, u4.len⟩
    · unfold lo2; grind
    · unfold hi2; grind
structure MeetsR (a b : Enc) : Prop where
  e : (meetE a b).2.2 = 0
  f : (hullE a b).2 = 0
  g : (compareE a b).2 = 0
  i : (compareE b a).2 = 0
  ok : (meetE a b).2.1 = decide ((compareE a b).1 = 0)
  n : (compareE b a).1 = -(compareE a b).1
  ha : withinE a (hullE a b).1 = (true, 0)
  hb : withinE b (hullE a b).1 = (true, 0)
  ca : (meetE a b).2.1 = true → withinE (meetE a b).1 a = (true, 0)
  cb : (meetE a b).2.1 = true → withinE (meetE a b).1 b = (true, 0)
  lh : LenE (hullE a b).1
  lm : LenE (meetE a b).1
structure SelfR (a b : Enc) : Prop where
  e : (squareE a).2 = 0
  f : (mulE a a).2 = 0
  w : withinE (squareE a).1 (mulE a a).1 = (true, 0)
  h : (signS (squareE a).1.1).2 = 0
  n : 0 ≤ (signS (squareE a).1.1).1
  i : (addE a b).2 = 0
  j : (widthE a).2 = 0
  k : (widthE b).2 = 0
  l : (widthE (addE a b).1).2 = 0
  m : (addS (widthE a).1 (widthE b).1).2 = 0
  z : (addS (widthE a).1 (widthE b).1).1 = (widthE (addE a b).1).1
  l1 : LenE (squareE a).1
  l2 : LenE (mulE a a).1
  l3 : LenE (addE a b).1
  l4 : (widthE a).1.length ≤ 400
  l5 : (widthE b).1.length ≤ 400
end Go.Proofs.YtdejgaiocjfhjaaGreatDoor
namespace Go.Proofs.YtdejgaiocjfhjaaGreatDoor
open Go.RowKit
def beforeE (p q : Txt × Txt) (divide : Bool) : Bool :=
  if divide then decide ((fracQ p.1 * fracQ q.2 - fracQ q.1 * fracQ p.2).num.sign < 0) else decide ((fracQ p.1 * fracQ p.2 - fracQ q.1 * fracQ q.2).num.sign < 0)
end Go.Proofs.YtdejgaiocjfhjaaGreatDoor
namespace Go.Proofs.YtdejgaiocjfhjaaGreatDoor
open Go.RowKit
open Go.Lib (decDigits itoa)
def CellsT (w : World) (a : Option Addr) (l : List Txt) : Prop :=
  ∀ i, i < l.length → ∃ b off, a = some ⟨b, off, none⟩ ∧ w.cell? ⟨b, off + i, none⟩ = some (txt (l.getD i []))
theorem CellsT.ext {w w' : World} {a : Option Addr} {l : List Txt} (h : CellsT w a l) (he : Ext w w') : CellsT w' a l := fun i hi => by
  obtain ⟨b, off, h1, h2⟩ := h i hi
  exact ⟨b, off, h1, he.cell h2⟩
end Go.Proofs.YtdejgaiocjfhjaaGreatDoor
namespace Go.Proofs.YtdejgaiocjfhjaaGreatDoor
open Go.RowKit
def txtsV (l : List Txt) : List Value := l.map txt
theorem txtsV_get {l : List Txt} {i : Nat} (h : i < l.length) : (txtsV l)[i]? = some (txt (l.getD i [])) := by
  simp [txtsV, List.getD_eq_getElem?_getD, h]
def OwnT (w : World) (v : Value) (l : List Txt) : Prop := w.ownsRow 0 22 1 v l.length (txtsV l)
theorem OwnT.ext {A B : World} {v : Value} {l : List Txt} (h : OwnT A v l) (he : Ext A B) : OwnT B v l := rowExt h he
theorem OwnT.succ {w : World} {v : Value} {l : List Txt} {x : Txt} (h : w.ownsRow 0 22 1 v (l.length + 1) (txtsV l ++ [txt x])) : OwnT w v (l ++ [x]) := by
  unfold OwnT txtsV
  rw [List.length_append, List.length_singleton, List.map_append]
  exact h
theorem OwnT.reads {A : World} {v : Value} {l : List Txt} (h : OwnT A v l) : ∃ a cap, v = .slice a l.length cap ∧ CellsT A a l := by
  obtain ⟨a, cap, hv, _, hr⟩ := rowReads h
  refine ⟨a, cap, hv, fun i hi => ?_⟩
  obtain ⟨b, hb, _, h1, _⟩ := hr i _ (txtsV_get hi)
  exact ⟨b, 0, hb, by rw [Nat.zero_add]; exact h1⟩
structure FourO (g : Nat) (W : World) (l : List Txt) (E : Nat) (v : Value) : Prop where
  c0 : W.cell? ⟨g, 0, none⟩ = some v
  c1 : W.cell? ⟨g, 1, none⟩ = some (.int .i64 (E : Nat))
  f0 : W.frozen? ⟨g, 0, none⟩ = false
  f1 : W.frozen? ⟨g, 1, none⟩ = false
  own : OwnT W v l
  blk : ∀ b, v.ownBlock = some b → g < b
def Four (g : Nat) (W : World) (l : List Txt) (E : Nat) : Prop := ∃ v, FourO g W l E v
theorem FourO.ext {g : Nat} {A B : World} {l : List Txt} {E : Nat} {v : Value} (x : FourO g A l E v) (e : Ext A B) : FourO g B l E v := by
  have hz : g < A.heap.size := cell_lt x.c0
  exact ⟨e.cell x.c0, e.cell x.c1, (Below.frozen (p := ⟨g, 0, none⟩) e hz).trans x.f0, (Below.frozen (p := ⟨g, 1, none⟩) e hz).trans x.f1, x.own.ext e, x.blk⟩
theorem Four.ext {g : Nat} {A B : World} {l : List Txt} {E : Nat} (x : Four g A l E) (e : Ext A B) : Four g B l E := by
  obtain ⟨v, h⟩ := x
  exact ⟨v, h.ext e⟩
theorem setCell_block {w : World} {b o c : Nat} {v : Value} (h : c ≠ b) : (w.setCell ⟨b, o, none⟩ v).heap[c]? = w.heap[c]? := by
  simp only [World.setCell, Array.getElem?_modify]
  rw [if_neg (fun e => h e.symm)]
theorem OwnT.set {g o : Nat} {w : World} {v u : Value} {l : List Txt} (h : OwnT w v l) (hb : ∀ b, v.ownBlock = some b → g < b) : OwnT (w.setCell ⟨g, o, none⟩ u) v l :=
  rowSame h fun b h1 => setCell_block (by have := hb b h1; omega)
theorem FourO.app {g : Nat} {w w5 : World} {l : List Txt} {E : Nat} {v v' : Value} {a : Txt} (x : FourO g w l E v) (hown : w5.ownsRow 0 22 1 v' (l.length + 1) (txtsV l ++ [txt a])) (hend : AppEnd w w5 v v') :
    FourO g (w5.setCell ⟨g, 0, none⟩ v') (l ++ [a]) E v' ∧ Below g w (w5.setCell ⟨g, 0, none⟩ v') := by
  have hz : g < w.heap.size := cell_lt x.c0
  have B : Below (g + 1) w w5 := hend.below (by omega) (fun b hb => x.blk b hb)
  have hb : ∀ b, v'.ownBlock = some b → g < b := fun b h => hend.ge (n := g + 1) (by omega) (fun b hb => x.blk b hb) b h
  have c0 := cellB B (p := ⟨g, 0, none⟩) (by show g < g + 1; omega) x.c0
  have c1 := cellB B (p := ⟨g, 1, none⟩) (by show g < g + 1; omega) x.c1
  have f0 := (Below.frozen (p := ⟨g, 0, none⟩) B (by show g < g + 1; omega)).trans x.f0
  have f1 := (Below.frozen (p := ⟨g, 1, none⟩) B (by show g < g + 1; omega)).trans x.f1
  refine ⟨⟨World.cell?_setCell_same _ _ _ c0, by rw [World.cell?_setCell_other _ _ _ _ (fun h => by simp only [Addr.mk.injEq] at h; omega)]; exact c1, by rw [World.frozen?_setCell]; exact f0, by rw [World.frozen?_setCell]; exact f1, (OwnT.succ hown).set hb, hb⟩, ?_⟩
  exact Below.setCell (p := ⟨g, 0, none⟩) (B.mono (by omega)) (Nat.le_refl g) v'
end Go.Proofs.YtdejgaiocjfhjaaGreatDoor
namespace Go.Proofs.YtdejgaiocjfhjaaGreatDoor
open Go.RowKit
open Go.Lib (decDigits itoa)
theorem cmp_num2 {a b : Txt} (ea : fracE a = 0) (eb : fracE b = 0) : cmpS a b = (signN (sumN (numOf a) (negN (numOf b))), 0) := by
  obtain ⟨h1, h2⟩ := sumN_val (x := numOf a) (y := negN (numOf b)) (numOf_len ea).2 (numOf_len eb).2
  have h3 : valQ (sumN (numOf a) (negN (numOf b))) = fracQ a - fracQ b := by rw [h1, negN_val, numOf_val, numOf_val, Rat.sub_eq_add_neg]
  unfold cmpS ifOk
  rw [if_pos (bothE_zero ea eb), ← h3]
  unfold valQ signN
  rw [num_sign h2]
set_option maxHeartbeats 16000000 in
set_option maxRecDepth 100000 in
theorem compareF_any (a b : Txt) (w : World) (hG : Glob w) (ha : a.length ≤ 400) (hb : b.length ≤ 400) :
    Calls Tryz.prog 89 #[txt a, txt b] w (IntP (cmpS a b).1 (cmpS a b).2 w) := by
  have HPA := Lib.hid (fun W (hW : Ext w W) => parsed_any a W (hG.ext hW) ha)
  have HPB := Lib.hid (fun W (hW : Ext w W) => parsed_any b W (hG.ext hW) hb)
  clear hG
  unfold IntP
  go_enter Tryz.func89, Tryz.ntmps89
  go_wp2_with fail
  refine (HPA.out _ (Ext.refl _)).mono ?_
  rintro e w1 ⟨v1, rfl, ⟨s1, ta, tn, tc, ba, bn, bc, rfl⟩, hn1, hE⟩
  have HN1 := Lib.hid hn1
  clear hn1 HPA
  by_cases ea : fracE a = 0
  rotate_left
  · have HR : Hid (cmpS a b = (0, fracE a)) := by show _ = _; unfold cmpS ifOk; rw [bothE_left ea, if_neg ea]
    have hne : (((fracE a : Nat) : Int) != 0) = true := by rw [bne_iff_ne]; omega
    clear HN1 HPB
    generalize fracE a = n at *
    go_wp2_with fail
    go_ret2
    exact ⟨by rw [HR.out]; rfl, extA⟩
  have HNA := Lib.hid (HN1.out ea)
  rw [ea]
  have HEA := Lib.hid ea
  clear ea HN1
  have hne0 : (((0 : Nat) : Int) != 0) = false := rfl
  have EV : Ext w1 (w1.alloc (.cells #[.bool s1, .slice ta tn tc, .slice ba bn bc] 116)) := extA
  have X : Num3 w1.heap.size (w1.alloc (.cells #[.bool s1, .slice ta tn tc, .slice ba bn bc] 116)) (.bool s1) (.slice ta tn tc) (.slice ba bn bc) := ⟨by go_simp, by go_simp, by go_simp, by go_simp, by go_simp, by go_simp⟩
  have E := hE.trans EV
  replace HNA := Lib.hid (HNA.out.ext EV)
  clear EV hE
  go_wp2_with fail
  obtain ⟨xb, hxb⟩ : ∃ xb, xb = w1.heap.size := ⟨_, rfl⟩
  rw [← hxb] at X ⊢
  clear hxb
  generalize (w1.alloc (.cells #[.bool s1, .slice ta tn tc, .slice ba bn bc] 116)) = W1 at X E HNA ⊢
  refine (HPB.out _ E).mono ?_
  rintro e w3 ⟨v2, rfl, ⟨s2, ua, un, uc, va, vn, vc, rfl⟩, hn2, hE⟩
  replace X := X.ext hE
  replace E := E.trans hE
  replace HNA := Lib.hid (HNA.out.ext hE)
  have HN2 := Lib.hid hn2
  clear hn2 HPB hE
  by_cases eb : fracE b = 0
  rotate_left
  · have HR : Hid (cmpS a b = (0, fracE b)) := by show _ = _; unfold cmpS ifOk; rw [bothE_right HEA.out, if_neg eb]
    have hne : (((fracE b : Nat) : Int) != 0) = true := by rw [bne_iff_ne]; omega
    clear HN2 HEA
    generalize fracE b = n at *
    go_wp2_with fail
    go_ret2
    exact ⟨by rw [HR.out]; rfl, extA⟩
  have HNB := Lib.hid (HN2.out eb)
  have HR := Lib.hid (cmp_num2 HEA.out eb)
  have hxa := (numOf_len HEA.out).1
  have hyb := (numOf_len eb).1
  rw [eb]
  clear eb HN2 HEA
  have EV : Ext w3 (w3.alloc (.cells #[.bool s2, .slice ua un uc, .slice va vn vc] 116)) := extA
  have Y : Num3 w3.heap.size (w3.alloc (.cells #[.bool s2, .slice ua un uc, .slice va vn vc] 116)) (.bool s2) (.slice ua un uc) (.slice va vn vc) := ⟨by go_simp, by go_simp, by go_simp, by go_simp, by go_simp, by go_simp⟩
  replace X := X.ext EV
  replace E := E.trans EV
  replace HNA := Lib.hid (HNA.out.ext EV)
  replace HNB := Lib.hid (HNB.out.ext EV)
  clear EV
  generalize numOf a = NA at *
  generalize numOf b = NB at *
  go_wp2_with fail
  obtain ⟨yb, hyb2⟩ : ∃ yb, yb = w3.heap.size := ⟨_, rfl⟩
  rw [← hyb2] at Y ⊢
  clear hyb2
  generalize (w3.alloc (.cells #[.bool s2, .slice ua un uc, .slice va vn vc] 116)) = W3 at X Y E HNA HNB ⊢
  have hdr : Ext W3 W3.drew := extA
  replace X := X.ext hdr
  replace Y := Y.ext hdr
  replace E := E.trans hdr
  replace HNA := Lib.hid (HNA.out.ext hdr)
  replace HNB := Lib.hid (HNB.out.ext hdr)
  have hS : W3.drew.cell? ⟨xb, 0, none⟩ = some (.bool s1) ∧ W3.drew.cell? ⟨xb, 1, none⟩ = some (.slice ta tn tc) ∧ W3.drew.cell? ⟨xb, 2, none⟩ = some (.slice ba bn bc) ∧ W3.drew.cell? ⟨yb, 0, none⟩ = some (.bool s2) ∧ W3.drew.cell? ⟨yb, 1, none⟩ = some (.slice ua un uc) ∧ W3.drew.cell? ⟨yb, 2, none⟩ = some (.slice va vn vc) := ⟨X.c0, X.c1, X.c2, Y.c0, Y.c1, Y.c2⟩
  refine wp_region_heldE 99 (fun w' => w'.cell? ⟨xb, 0, none⟩ = some (.bool s1) ∧ w'.cell? ⟨xb, 1, none⟩ = some (.slice ta tn tc) ∧ w'.cell? ⟨xb, 2, none⟩ = some (.slice ba bn bc) ∧ w'.cell? ⟨yb, 0, none⟩ = some (.bool s2) ∧ w'.cell? ⟨yb, 1, none⟩ = some (.slice ua un uc) ∧ w'.cell? ⟨yb, 2, none⟩ = some (.slice va vn vc)) (by kernel_rfl) ?_
  clear hdr X Y
  generalize W3.drew = W4 at E HNA HNB hS ⊢
  ((refine eTk 0 ?_); (refine eTk 1 ?_))
  (refine wpAnyE_one (i := 2) (o := ?_) ?_ (by kernel_rfl) (fun K hK => ?_); rotate_left; (focus ((simp only [List.getElem?_toArray, List.getElem?_cons_succ, List.getElem?_cons_zero]; exact rfl))); go_simp; go_at_call 124; refine (opposite_any NB _ _ HNB.out).mono ?_; rintro e w5 ⟨v5, rfl, h5, hE⟩; go_wp2_with fail; refine hK.out _ _ ?_ (fun hHeld => ?_); rotate_left; clear hK K; (try simp only [Act.put, List.setIfInBounds_toArray, List.set_cons_zero, List.set_cons_succ]))
  rotate_left
  · exact ⟨hE.cell hS.1, hE.cell hS.2.1, hE.cell hS.2.2.1, hE.cell hS.2.2.2.1, hE.cell hS.2.2.2.2.1, hE.cell hS.2.2.2.2.2⟩
  have hS5 : w5.cell? ⟨xb, 0, none⟩ = some (.bool s1) ∧ w5.cell? ⟨xb, 1, none⟩ = some (.slice ta tn tc) ∧ w5.cell? ⟨xb, 2, none⟩ = some (.slice ba bn bc) ∧ w5.cell? ⟨yb, 0, none⟩ = some (.bool s2) ∧ w5.cell? ⟨yb, 1, none⟩ = some (.slice ua un uc) ∧ w5.cell? ⟨yb, 2, none⟩ = some (.slice va vn vc) := ⟨hE.cell hS.1, hE.cell hS.2.1, hE.cell hS.2.2.1, hE.cell hS.2.2.2.1, hE.cell hS.2.2.2.2.1, hE.cell hS.2.2.2.2.2⟩
  replace E := E.trans hE
  replace HNA := Lib.hid (HNA.out.ext hE)
  have HV5 := Lib.hid h5
  clear hS hE h5 hHeld HNB
  (refine wpAnyE_one (i := 3) (o := ?_) ?_ (by kernel_rfl) (fun K hK => ?_); rotate_left; (focus ((simp only [List.getElem?_toArray, List.getElem?_cons_succ, List.getElem?_cons_zero]; exact rfl))); go_simp; go_at_call 123; refine (sum_any NA (negN NB) _ v5 w5 HNA.out HV5.out hxa hyb).mono ?_; rintro e w6 ⟨v6, rfl, h6, _, hE⟩; go_wp2_with fail; refine hK.out _ _ ?_ (fun hHeld => ?_); rotate_left; clear hK K; (try simp only [Act.put, List.setIfInBounds_toArray, List.set_cons_zero, List.set_cons_succ]))
  rotate_left
  · exact ⟨hE.cell hS5.1, hE.cell hS5.2.1, hE.cell hS5.2.2.1, hE.cell hS5.2.2.2.1, hE.cell hS5.2.2.2.2.1, hE.cell hS5.2.2.2.2.2⟩
  have hS6 : w6.cell? ⟨xb, 0, none⟩ = some (.bool s1) ∧ w6.cell? ⟨xb, 1, none⟩ = some (.slice ta tn tc) ∧ w6.cell? ⟨xb, 2, none⟩ = some (.slice ba bn bc) ∧ w6.cell? ⟨yb, 0, none⟩ = some (.bool s2) ∧ w6.cell? ⟨yb, 1, none⟩ = some (.slice ua un uc) ∧ w6.cell? ⟨yb, 2, none⟩ = some (.slice va vn vc) := ⟨hE.cell hS5.1, hE.cell hS5.2.1, hE.cell hS5.2.2.1, hE.cell hS5.2.2.2.1, hE.cell hS5.2.2.2.2.1, hE.cell hS5.2.2.2.2.2⟩
  replace E := E.trans hE
  have HV6 := Lib.hid h6
  clear hS5 hE h6 hHeld HNA HV5
  generalize sumN NA (negN NB) = SN at *
  (refine wpAnyE_one (i := 4) (o := ?_) ?_ (by kernel_rfl) (fun K hK => ?_); rotate_left; (focus ((simp only [List.getElem?_toArray, List.getElem?_cons_succ, List.getElem?_cons_zero]; exact rfl))); go_simp; go_at_call 94; refine (sign_any SN v6 w6 HV6.out).mono ?_; rintro e w7 ⟨rfl, hE⟩; go_wp2_with fail; refine hK.out _ _ ?_ (fun hHeld => ?_); rotate_left; clear hK K; (try simp only [Act.put, List.setIfInBounds_toArray, List.set_cons_zero, List.set_cons_succ]))
  rotate_left
  · exact ⟨hE.cell hS6.1, hE.cell hS6.2.1, hE.cell hS6.2.2.1, hE.cell hS6.2.2.2.1, hE.cell hS6.2.2.2.2.1, hE.cell hS6.2.2.2.2.2⟩
  have hS7 : w7.cell? ⟨xb, 0, none⟩ = some (.bool s1) ∧ w7.cell? ⟨xb, 1, none⟩ = some (.slice ta tn tc) ∧ w7.cell? ⟨xb, 2, none⟩ = some (.slice ba bn bc) ∧ w7.cell? ⟨yb, 0, none⟩ = some (.bool s2) ∧ w7.cell? ⟨yb, 1, none⟩ = some (.slice ua un uc) ∧ w7.cell? ⟨yb, 2, none⟩ = some (.slice va vn vc) := ⟨hE.cell hS6.1, hE.cell hS6.2.1, hE.cell hS6.2.2.1, hE.cell hS6.2.2.2.1, hE.cell hS6.2.2.2.2.1, hE.cell hS6.2.2.2.2.2⟩
  replace E := E.trans hE
  clear hS6 hE hHeld
  ((refine ePu 5 ?_); (refine ePu 6 ?_))
  clear hS7
  refine wpAnyE_done (by kernel_rfl) ?_ _
  go_wp2_with fail
  go_ret2
  exact ⟨by rw [HR.out]; rfl, E⟩
end Go.Proofs.YtdejgaiocjfhjaaGreatDoor
namespace Go.Proofs.YtdejgaiocjfhjaaGreatDoor
open Go.RowKit
open Go.Lib (decDigits itoa)
abbrev encV (a : Enc) : Value := .agg #[txt a.1, txt a.2]
def EncP (r : EncR) (w : World) (e : Ending) (w' : World) : Prop := e = .returned (.tuple #[encV r.1, .int .i64 (r.2 : Nat)]) ∧ Ext w w'
theorem cmp_bad {a b : Txt} (h : bothE a b ≠ 0) : cmpS a b = (0, bothE a b) := by unfold cmpS ifOk; rw [if_neg h]
theorem cmp_good {a b : Txt} (h : bothE a b = 0) : cmpS a b = (ordQ a b, 0) := by unfold cmpS ifOk; rw [if_pos h]; rfl
theorem encE_bad {a : Enc} (h : bothE a.1 a.2 ≠ 0) : encE a = bothE a.1 a.2 := by unfold encE; rw [if_neg h]
theorem encE_good {a : Enc} (h : bothE a.1 a.2 = 0) : encE a = if 0 < ordQ a.1 a.2 then 9 else 0 := by unfold encE; rw [if_pos h]
set_option maxHeartbeats 4000000 in
set_option maxRecDepth 100000 in
theorem eCheck_any (a : Enc) (w : World) (hG : Glob w) (hl : LenE a) : Calls Tryz.prog 44 #[encV a] w fun e w' => e = .returned (.int .i64 (encE a : Nat)) ∧ Ext w w' := by
  obtain ⟨l, h⟩ := a
  have HC := Lib.hid (fun W (hW : Ext w W) => compareF_any l h W (hG.ext hW) hl.1 hl.2)
  clear hG
  unfold IntP at HC
  have E : Ext w (w.alloc (.cells #[txt l, txt h] 24)) := extA
  by_cases hb : bothE l h = 0
  · rw [cmp_good hb] at HC
    have HE : Hid (encE (l, h) = if 0 < ordQ l h then 9 else 0) := encE_good (a := (l, h)) hb
    clear hb hl
    generalize ordQ l h = z at *
    have hne0 : (((0 : Nat) : Int) != 0) = false := rfl
    by_cases hz : 0 < z
    · have HR : Hid (encE (l, h) = 9) := by show _ = _; rw [HE.out, if_pos hz]
      clear HE
      go_enter Tryz.func44, Tryz.ntmps44
      go_wp2_with (go_at_call 89; refine (HC.out _ E).mono ?_; rintro e w1 ⟨rfl, hE⟩)
      go_ret
      exact ⟨by rw [HR.out]; rfl, E.trans hE⟩
    · have HR : Hid (encE (l, h) = 0) := by show _ = _; rw [HE.out, if_neg hz]
      clear HE
      go_enter Tryz.func44, Tryz.ntmps44
      go_wp2_with (go_at_call 89; refine (HC.out _ E).mono ?_; rintro e w1 ⟨rfl, hE⟩)
      go_ret
      exact ⟨by rw [HR.out]; rfl, E.trans hE⟩
  · rw [cmp_bad hb] at HC
    have HR : Hid (encE (l, h) = bothE l h) := encE_bad (a := (l, h)) hb
    have hne : (((bothE l h : Nat) : Int) != 0) = true := by rw [bne_iff_ne]; omega
    clear hb hl
    generalize bothE l h = n at *
    go_enter Tryz.func44, Tryz.ntmps44
    go_wp2_with (go_at_call 89; refine (HC.out _ E).mono ?_; rintro e w1 ⟨rfl, hE⟩)
    go_ret
    exact ⟨by rw [HR.out]; rfl, E.trans hE⟩
set_option maxHeartbeats 4000000 in
set_option maxRecDepth 100000 in
theorem rCheck2_any (a : Enc) (w : World) (hl : LenE a) : Calls Tryz.prog 45 #[encV a] w fun e w' => e = .returned (.int .i64 (encE a : Nat)) ∧ Ext w w' := by
  obtain ⟨l, h⟩ := a
  have HL := Lib.hid (fun W => checkR_any l W hl.1)
  have HH := Lib.hid (fun W => checkR_any h W hl.2)
  by_cases el : fracE l = 0
  · rw [el] at HL
    by_cases eh : fracE h = 0
    · rw [eh] at HH
      have HO := Lib.hid (fun W => rOrder_any l h W el eh hl.1 hl.2)
      have HE : Hid (encE (l, h) = if 0 < ordQ l h then 9 else 0) := encE_good (a := (l, h)) (bothE_zero el eh)
      have hoq : (fracQ l - fracQ h).num.sign = ordQ l h := rfl
      rw [hoq] at HO
      clear el eh hl hoq
      generalize ordQ l h = z at *
      by_cases hz : 0 < z
      · have HR : Hid (encE (l, h) = 9) := by show _ = _; rw [HE.out, if_pos hz]
        clear HE
        have c0 : (w.alloc (.cells #[txt l, txt h] 24)).cell? ⟨w.heap.size, 0, none⟩ = some (txt l) := by go_simp
        have c1 : (w.alloc (.cells #[txt l, txt h] 24)).cell? ⟨w.heap.size, 1, none⟩ = some (txt h) := by go_simp
        go_enter Tryz.func45, Tryz.ntmps45
        go_wp2_with (first
          | (go_at_call 60; first | (with_reducible refine (HL.out _).mono ?_; rintro e w1 ⟨rfl, hE1⟩; have c0 := hE1.cell c0; have c1 := hE1.cell c1) | (with_reducible refine (HH.out _).mono ?_; rintro e w2 ⟨rfl, hE2⟩; have c0 := hE2.cell c0; have c1 := hE2.cell c1))
          | (go_at_call 72; with_reducible refine (HO.out _).mono ?_; rintro e w3 ⟨rfl, hE3⟩; have c0 := hE3.cell c0; have c1 := hE3.cell c1))
        go_ret
        exact ⟨by rw [HR.out]; rfl, extA⟩
      · have HR : Hid (encE (l, h) = 0) := by show _ = _; rw [HE.out, if_neg hz]
        clear HE
        have c0 : (w.alloc (.cells #[txt l, txt h] 24)).cell? ⟨w.heap.size, 0, none⟩ = some (txt l) := by go_simp
        have c1 : (w.alloc (.cells #[txt l, txt h] 24)).cell? ⟨w.heap.size, 1, none⟩ = some (txt h) := by go_simp
        go_enter Tryz.func45, Tryz.ntmps45
        go_wp2_with (first
          | (go_at_call 60; first | (with_reducible refine (HL.out _).mono ?_; rintro e w1 ⟨rfl, hE1⟩; have c0 := hE1.cell c0; have c1 := hE1.cell c1) | (with_reducible refine (HH.out _).mono ?_; rintro e w2 ⟨rfl, hE2⟩; have c0 := hE2.cell c0; have c1 := hE2.cell c1))
          | (go_at_call 72; with_reducible refine (HO.out _).mono ?_; rintro e w3 ⟨rfl, hE3⟩; have c0 := hE3.cell c0; have c1 := hE3.cell c1))
        go_ret
        exact ⟨by rw [HR.out]; rfl, extA⟩
    · have HR : Hid (encE (l, h) = fracE h) := by
        show _ = _
        have hb : bothE l h = fracE h := bothE_right el
        rw [encE_bad (a := (l, h)) (by show bothE l h ≠ 0; rw [hb]; exact eh)]
        exact hb
      have hne : (((fracE h : Nat) : Int) != 0) = true := by rw [bne_iff_ne]; omega
      clear el eh hl
      generalize fracE h = n at *
      have c0 : (w.alloc (.cells #[txt l, txt h] 24)).cell? ⟨w.heap.size, 0, none⟩ = some (txt l) := by go_simp
      have c1 : (w.alloc (.cells #[txt l, txt h] 24)).cell? ⟨w.heap.size, 1, none⟩ = some (txt h) := by go_simp
      go_enter Tryz.func45, Tryz.ntmps45
      go_wp2_with (go_at_call 60; first | (with_reducible refine (HL.out _).mono ?_; rintro e w1 ⟨rfl, hE1⟩; have c0 := hE1.cell c0; have c1 := hE1.cell c1) | (with_reducible refine (HH.out _).mono ?_; rintro e w2 ⟨rfl, hE2⟩; have c0 := hE2.cell c0; have c1 := hE2.cell c1))
      go_ret
      exact ⟨by rw [HR.out]; rfl, extA⟩
  · have HR : Hid (encE (l, h) = fracE l) := by
      show _ = _
      have hb : bothE l h = fracE l := bothE_left el
      rw [encE_bad (a := (l, h)) (by show bothE l h ≠ 0; rw [hb]; exact el)]
      exact hb
    have hne : (((fracE l : Nat) : Int) != 0) = true := by rw [bne_iff_ne]; omega
    clear el hl HH
    generalize fracE l = n at *
    have c0 : (w.alloc (.cells #[txt l, txt h] 24)).cell? ⟨w.heap.size, 0, none⟩ = some (txt l) := by go_simp
    have c1 : (w.alloc (.cells #[txt l, txt h] 24)).cell? ⟨w.heap.size, 1, none⟩ = some (txt h) := by go_simp
    go_enter Tryz.func45, Tryz.ntmps45
    go_wp2_with (go_at_call 60; with_reducible refine (HL.out _).mono ?_; rintro e w1 ⟨rfl, hE1⟩; have c0 := hE1.cell c0; have c1 := hE1.cell c1)
    go_ret
    exact ⟨by rw [HR.out]; rfl, extA⟩
end Go.Proofs.YtdejgaiocjfhjaaGreatDoor
namespace Go.Proofs.YtdejgaiocjfhjaaGreatDoor
open Go.RowKit
open Go.Lib (decDigits itoa)
end Go.Proofs.YtdejgaiocjfhjaaGreatDoor
namespace Go.Proofs.YtdejgaiocjfhjaaGreatDoor
open Go.RowKit
theorem cell_new2 (w : World) (arr : Array Value) (t : TypeId) (i : Nat) (v : Value) (h : arr[i]? = some v) : (w.alloc (.cells arr t)).cell? ⟨w.heap.size, i, none⟩ = some v := by
  have hh : (w.alloc (.cells arr t)).heap[w.heap.size]? = some (.cells arr t) := by show (w.heap.push _)[w.heap.size]? = _; rw [Array.getElem?_push, if_pos rfl]
  simp only [World.cell?, hh]
  first | exact h | (rw [h]; rfl)
def CellsE (w : World) (a : Option Addr) (l : List Enc) : Prop :=
  ∀ i, i < l.length → ∃ b off, a = some ⟨b, off, none⟩ ∧ w.cell? ⟨b, off + i * 2, none⟩ = some (txt (l.getD i ([], [])).1) ∧ w.cell? ⟨b, off + i * 2 + 1, none⟩ = some (txt (l.getD i ([], [])).2)
theorem CellsE.ext {w w' : World} {a : Option Addr} {l : List Enc} (h : CellsE w a l) (he : Ext w w') : CellsE w' a l := fun i hi => by
  obtain ⟨b, off, h1, h2, h3⟩ := h i hi
  exact ⟨b, off, h1, he.cell h2, he.cell h3⟩
def firstEE : List Enc → Nat
  | [] => 0
  | a :: l => if encE a = 0 then firstEE l else encE a
theorem firstEE_two (a b : Enc) : firstEE [a, b] = bothEE a b := by
  unfold firstEE bothEE
  split
  · unfold firstEE
    split
    · rename_i h; rw [h]; rfl
    · rfl
  · rfl
theorem getD_enc {l : List Enc} {k : Nat} (h : k < l.length) : l.getD k ([], []) = l[k] := by simp [List.getD, h]
theorem mem_enc {l : List Enc} {k : Nat} (h : k < l.length) : l.getD k ([], []) ∈ l := by rw [getD_enc h]; exact List.getElem_mem h
theorem firstEE_drop {l : List Enc} {k : Nat} (h : k < l.length) : firstEE (l.drop k) = if encE (l.getD k ([], [])) = 0 then firstEE (l.drop (k + 1)) else encE (l.getD k ([], [])) := by
  rw [List.drop_eq_getElem_cons h, getD_enc h]; rfl
set_option maxHeartbeats 4000000 in
set_option maxRecDepth 100000 in
theorem eChecked_any (l : List Enc) (a : Option Addr) (cap : Nat) (w : World) (hG : Glob w) (hc : CellsE w a l) (hm : l.length ≤ 1000) (hl : ∀ x ∈ l, LenE x) :
    Calls Tryz.prog 79 #[.slice a l.length cap] w fun e w' => e = .returned (.int .i64 (firstEE l : Nat)) ∧ Ext w w' := by
  have HC := Lib.hid hc
  have HK := Lib.hid (fun k (hk : k < l.length) W (hW : Ext w W) => eCheck_any (l.getD k ([], [])) W (hG.ext hW) (hl _ (mem_enc hk)))
  obtain ⟨S, hS⟩ : ∃ S, S = firstEE l := ⟨_, rfl⟩
  have HS := Lib.hid hS
  rw [← hS]
  clear hc hl hG hS
  go_enter Tryz.func79, Tryz.ntmps79
  go_wp2
  go_loopw [8] (fun i wr => ∃ k : Nat, k ≤ l.length ∧ i = .int .i64 k ∧ Hid (S = firstEE (l.drop k)) ∧ Ext w wr) (fun i _ => l.length - (intOf i).toNat)
  case atStart => exact ⟨0, by omega, rfl, HS.out, Ext.refl _⟩
  case round =>
    obtain ⟨k, hk, rfl, HE, he⟩ := hrel
    by_cases hlt : k < l.length
    · have hki : (k : Int) < (l.length : Int) := by omega
      obtain ⟨b, off, ha, hc1, hc2⟩ := HC.out.ext he k hlt
      subst ha
      have HKX := Lib.hid (HK.out k hlt)
      have hst := firstEE_drop hlt
      by_cases hx : encE (l.getD k ([], [])) = 0
      · have HE2 : Hid (S = firstEE (l.drop (k + 1))) := by show _ = _; rw [HE.out, hst, if_pos hx]
        rw [hx] at HKX
        generalize l.getD k ([], []) = x at hc1 hc2 HKX
        obtain ⟨x1, x2⟩ := x
        dsimp only [encV] at hc1 hc2 HKX
        clear hx HE hst
        go_wp2_with (go_at_call 44; refine (HKX.out _ extA).mono ?_; rintro e w1 ⟨rfl, hE⟩)
        refine ⟨⟨k + 1, by omega, by go_num, HE2, (he.trans ((Ext.refl _).alloc _)).trans hE⟩, by simp [intOf]; omega⟩
      · have hfe : S = encE (l.getD k ([], [])) := by rw [HE.out, hst, if_neg hx]
        have HR := Lib.hid hfe
        have hne : (((encE (l.getD k ([], [])) : Nat) : Int) != 0) = true := by rw [bne_iff_ne]; omega
        clear hx HE hst hfe
        generalize encE (l.getD k ([], [])) = n at *
        generalize l.getD k ([], []) = x at hc1 hc2 HKX
        obtain ⟨x1, x2⟩ := x
        dsimp only [encV] at hc1 hc2 HKX
        go_wp2_with (go_at_call 44; refine (HKX.out _ extA).mono ?_; rintro e w1 ⟨rfl, hE⟩)
        go_ret
        exact ⟨by rw [HR.out]; rfl, (he.trans ((Ext.refl _).alloc _)).trans hE⟩
    · have hki : ¬ (k : Int) < (l.length : Int) := by omega
      have HR : Hid (S = 0) := by show _ = _; rw [HE.out, List.drop_eq_nil_of_le (by omega)]; rfl
      clear HE
      go_wp2
      go_ret
      exact ⟨by rw [HR.out]; rfl, he⟩
end Go.Proofs.YtdejgaiocjfhjaaGreatDoor
namespace Go.Proofs.YtdejgaiocjfhjaaGreatDoor
open Go.RowKit
def BoolP (b : Bool) (n : Nat) (w : World) (e : Ending) (w' : World) : Prop := e = .returned (.tuple #[.bool b, .int .i64 (n : Nat)]) ∧ Ext w w'
theorem bothEE_two {a b : Enc} (h : bothEE a b = 0) : encE a = 0 ∧ encE b = 0 := by
  unfold bothEE at h
  by_cases ea : encE a = 0
  · rw [if_pos ea] at h; exact ⟨ea, h⟩
  · rw [if_neg ea] at h; exact absurd h ea
theorem pair_enc (w : World) (a b : Enc) (t : TypeId) : CellsE (w.alloc (.cells #[txt a.1, txt a.2, txt b.1, txt b.2] t)) (some ⟨w.heap.size, 0, none⟩) [a, b] := fun i hi => by
  refine ⟨w.heap.size, 0, rfl, ?_, ?_⟩
  · rcases i with _ | _ | i
    · exact cell_new2 w _ t 0 _ rfl
    · exact cell_new2 w _ t 2 _ rfl
    · simp at hi; omega
  · rcases i with _ | _ | i
    · exact cell_new2 w _ t 1 _ rfl
    · exact cell_new2 w _ t 3 _ rfl
    · simp at hi; omega
set_option maxHeartbeats 2000000 in
theorem eOrder_any (a b : Txt) (w : World) (hG : Glob w) (ha : a.length ≤ 400) (hb : b.length ≤ 400) (h0 : bothE a b = 0) : Calls Tryz.prog 84 #[txt a, txt b] w fun e w' => e = .returned (.int .i64 (ordQ a b)) ∧ Ext w w' := by
  have HC := Lib.hid (compareF_any a b w hG ha hb)
  rw [cmp_good h0] at HC
  unfold IntP at HC
  clear hG h0
  generalize ordQ a b = z at *
  go_enter Tryz.func84, Tryz.ntmps84
  go_wp2_with (go_at_call 89; refine HC.out.mono ?_; rintro e w1 ⟨rfl, hE⟩)
  go_ret
  exact ⟨rfl, hE⟩
end Go.Proofs.YtdejgaiocjfhjaaGreatDoor
namespace Go.Proofs.YtdejgaiocjfhjaaGreatDoor
open Go.RowKit
structure Right2 (l h m k : Txt) : Prop where
  l : fracE l = 0
  h : fracE h = 0
  m : fracE m = 0
  k : fracE k = 0
set_option maxHeartbeats 4000000 in
set_option maxRecDepth 100000 in
theorem eCompare_any (a b : Enc) (w : World) (hG : Glob w) (hl : LenE a) (hm : LenE b) : Calls Tryz.prog 34 #[encV a, encV b] w (IntP (compareE a b).1 (compareE a b).2 w) := by
  have HB : Hid (∀ W (v : World) (n : Nat), n = v.heap.size → W = v.alloc (.cells #[txt a.1, txt a.2, txt b.1, txt b.2] 24) → Ext w W → Calls Tryz.prog 79 #[.slice (some ⟨n, 0, none⟩) 2 2] W fun e w' => e = .returned (.int .i64 (bothEE a b : Nat)) ∧ Ext W w') := fun W v n hn hW h => by
    rw [hn]
    have k := eChecked_any [a, b] (some ⟨v.heap.size, 0, none⟩) 2 W (hG.ext h) (by rw [hW]; exact pair_enc v a b _) (by simp) (fun x hx => by
      simp only [List.mem_cons, List.mem_nil_iff, or_false] at hx
      rcases hx with rfl | rfl
      · exact hl
      · exact hm)
    rw [firstEE_two] at k
    exact k
  unfold IntP
  by_cases e0 : bothEE a b = 0
  · obtain ⟨ea, eb⟩ := bothEE_two e0
    obtain ⟨f1, f2, _⟩ := enc_right ea
    obtain ⟨f3, f4, _⟩ := enc_right eb
    have HO1 := Lib.hid (fun W (h : Ext w W) => eOrder_any a.2 b.1 W (hG.ext h) hl.2 hm.1 (bothE_zero f2 f3))
    have HO2 := Lib.hid (fun W (h : Ext w W) => eOrder_any a.1 b.2 W (hG.ext h) hl.1 hm.2 (bothE_zero f1 f4))
    have HSU : Hid (compareE a b = ((if ordQ a.2 b.1 < 0 then -1 else if 0 < ordQ a.1 b.2 then 1 else 0), 0)) := by show _ = _; unfold compareE sureE; rw [if_neg (not_not_intro e0)]
    rw [e0] at HB
    clear e0 ea eb f1 f2 f3 f4 hl hm hG
    obtain ⟨l, h⟩ := a
    obtain ⟨m, k⟩ := b
    dsimp only [encV] at HB HO1 HO2 HSU ⊢
    have hne0 : (((0 : Nat) : Int) != 0) = false := rfl
    generalize ordQ h m = z1 at *
    generalize ordQ l k = z2 at *
    obtain ⟨C, hC⟩ : ∃ C, C = compareE (l, h) (m, k) := ⟨_, rfl⟩
    rw [← hC] at HSU ⊢
    clear hC
    by_cases h1 : z1 < 0
    · have HR : Hid (C = (-1, 0)) := by show _ = _; rw [HSU.out, if_pos h1]
      have c0 : (((w.alloc (.cells #[txt l, txt h] 24)).alloc (.cells #[txt m, txt k] 24)).alloc (.cells #[txt l, txt h, txt m, txt k] 24)).cell? ⟨w.heap.size, 0, none⟩ = some (txt l) := by go_simp
      have c1 : (((w.alloc (.cells #[txt l, txt h] 24)).alloc (.cells #[txt m, txt k] 24)).alloc (.cells #[txt l, txt h, txt m, txt k] 24)).cell? ⟨w.heap.size, 1, none⟩ = some (txt h) := by go_simp
      have c2 : (((w.alloc (.cells #[txt l, txt h] 24)).alloc (.cells #[txt m, txt k] 24)).alloc (.cells #[txt l, txt h, txt m, txt k] 24)).cell? ⟨w.heap.size + 1, 0, none⟩ = some (txt m) := by go_simp
      have c3 : (((w.alloc (.cells #[txt l, txt h] 24)).alloc (.cells #[txt m, txt k] 24)).alloc (.cells #[txt l, txt h, txt m, txt k] 24)).cell? ⟨w.heap.size + 1, 1, none⟩ = some (txt k) := by go_simp
      go_enter Tryz.func34, Tryz.ntmps34
      go_wp2_with (go_at_call 79; refine (HB.out _ ((w.alloc (.cells #[txt l, txt h] 24)).alloc (.cells #[txt m, txt k] 24)) _ (by simp) rfl extA).mono ?_; rintro e w3 ⟨rfl, hE3⟩; have c0 := hE3.cell c0; have c1 := hE3.cell c1; have c2 := hE3.cell c2; have c3 := hE3.cell c3)
      go_wp2_with (go_at_call 84; with_reducible refine (HO1.out _ extA).mono ?_; rintro e w1 ⟨rfl, hE1⟩; have c0 := hE1.cell c0; have c1 := hE1.cell c1; have c2 := hE1.cell c2; have c3 := hE1.cell c3)
      go_ret2
      exact ⟨by rw [HR.out]; rfl, extA⟩
    · by_cases h2 : 0 < z2
      · have HR : Hid (C = (1, 0)) := by show _ = _; rw [HSU.out, if_neg h1, if_pos h2]
        have c0 : (((w.alloc (.cells #[txt l, txt h] 24)).alloc (.cells #[txt m, txt k] 24)).alloc (.cells #[txt l, txt h, txt m, txt k] 24)).cell? ⟨w.heap.size, 0, none⟩ = some (txt l) := by go_simp
        have c1 : (((w.alloc (.cells #[txt l, txt h] 24)).alloc (.cells #[txt m, txt k] 24)).alloc (.cells #[txt l, txt h, txt m, txt k] 24)).cell? ⟨w.heap.size, 1, none⟩ = some (txt h) := by go_simp
        have c2 : (((w.alloc (.cells #[txt l, txt h] 24)).alloc (.cells #[txt m, txt k] 24)).alloc (.cells #[txt l, txt h, txt m, txt k] 24)).cell? ⟨w.heap.size + 1, 0, none⟩ = some (txt m) := by go_simp
        have c3 : (((w.alloc (.cells #[txt l, txt h] 24)).alloc (.cells #[txt m, txt k] 24)).alloc (.cells #[txt l, txt h, txt m, txt k] 24)).cell? ⟨w.heap.size + 1, 1, none⟩ = some (txt k) := by go_simp
        go_enter Tryz.func34, Tryz.ntmps34
        go_wp2_with (go_at_call 79; refine (HB.out _ ((w.alloc (.cells #[txt l, txt h] 24)).alloc (.cells #[txt m, txt k] 24)) _ (by simp) rfl extA).mono ?_; rintro e w3 ⟨rfl, hE3⟩; have c0 := hE3.cell c0; have c1 := hE3.cell c1; have c2 := hE3.cell c2; have c3 := hE3.cell c3)
        go_wp2_with (go_at_call 84; with_reducible refine (HO1.out _ extA).mono ?_; rintro e w1 ⟨rfl, hE1⟩; have c0 := hE1.cell c0; have c1 := hE1.cell c1; have c2 := hE1.cell c2; have c3 := hE1.cell c3)
        go_wp2_with (go_at_call 84; with_reducible refine (HO2.out _ extA).mono ?_; rintro e w2 ⟨rfl, hE2⟩; skip)
        go_ret2
        exact ⟨by rw [HR.out]; rfl, extA⟩
      · have HR : Hid (C = (0, 0)) := by show _ = _; rw [HSU.out, if_neg h1, if_neg h2]
        have c0 : (((w.alloc (.cells #[txt l, txt h] 24)).alloc (.cells #[txt m, txt k] 24)).alloc (.cells #[txt l, txt h, txt m, txt k] 24)).cell? ⟨w.heap.size, 0, none⟩ = some (txt l) := by go_simp
        have c1 : (((w.alloc (.cells #[txt l, txt h] 24)).alloc (.cells #[txt m, txt k] 24)).alloc (.cells #[txt l, txt h, txt m, txt k] 24)).cell? ⟨w.heap.size, 1, none⟩ = some (txt h) := by go_simp
        have c2 : (((w.alloc (.cells #[txt l, txt h] 24)).alloc (.cells #[txt m, txt k] 24)).alloc (.cells #[txt l, txt h, txt m, txt k] 24)).cell? ⟨w.heap.size + 1, 0, none⟩ = some (txt m) := by go_simp
        have c3 : (((w.alloc (.cells #[txt l, txt h] 24)).alloc (.cells #[txt m, txt k] 24)).alloc (.cells #[txt l, txt h, txt m, txt k] 24)).cell? ⟨w.heap.size + 1, 1, none⟩ = some (txt k) := by go_simp
        go_enter Tryz.func34, Tryz.ntmps34
        go_wp2_with (go_at_call 79; refine (HB.out _ ((w.alloc (.cells #[txt l, txt h] 24)).alloc (.cells #[txt m, txt k] 24)) _ (by simp) rfl extA).mono ?_; rintro e w3 ⟨rfl, hE3⟩; have c0 := hE3.cell c0; have c1 := hE3.cell c1; have c2 := hE3.cell c2; have c3 := hE3.cell c3)
        go_wp2_with (go_at_call 84; with_reducible refine (HO1.out _ extA).mono ?_; rintro e w1 ⟨rfl, hE1⟩; have c0 := hE1.cell c0; have c1 := hE1.cell c1; have c2 := hE1.cell c2; have c3 := hE1.cell c3)
        go_wp2_with (go_at_call 84; with_reducible refine (HO2.out _ extA).mono ?_; rintro e w2 ⟨rfl, hE2⟩; skip)
        go_ret2
        exact ⟨by rw [HR.out]; rfl, extA⟩
  · have HR : Hid (compareE a b = (0, bothEE a b)) := by show _ = _; unfold compareE; rw [if_pos e0]
    have hne : (((bothEE a b : Nat) : Int) != 0) = true := by rw [bne_iff_ne]; omega
    rw [HR.out]
    clear e0 HR hl hm hG
    generalize bothEE a b = n at *
    obtain ⟨l, h⟩ := a
    obtain ⟨m, k⟩ := b
    dsimp only [encV] at HB ⊢
    go_enter Tryz.func34, Tryz.ntmps34
    go_wp2_with (go_at_call 79; refine (HB.out _ ((w.alloc (.cells #[txt l, txt h] 24)).alloc (.cells #[txt m, txt k] 24)) _ (by simp) rfl extA).mono ?_; rintro e w3 ⟨rfl, hE3⟩; skip)
    go_ret2
    exact ⟨rfl, extA⟩
end Go.Proofs.YtdejgaiocjfhjaaGreatDoor
namespace Go.Proofs.YtdejgaiocjfhjaaGreatDoor
open Go.RowKit
theorem checked_two (a b : Enc) (w : World) (hG : Glob w) (hl : LenE a) (hm : LenE b) : ∀ W (v : World) (n : Nat), n = v.heap.size → W = v.alloc (.cells #[txt a.1, txt a.2, txt b.1, txt b.2] 24) → Ext w W → Calls Tryz.prog 79 #[.slice (some ⟨n, 0, none⟩) 2 2] W fun e w' => e = .returned (.int .i64 (bothEE a b : Nat)) ∧ Ext W w' := fun W v n hn hW h => by
  rw [hn]
  have k := eChecked_any [a, b] (some ⟨v.heap.size, 0, none⟩) 2 W (hG.ext h) (by rw [hW]; exact pair_enc v a b _) (by simp) (fun x hx => by
    simp only [List.mem_cons, List.mem_nil_iff, or_false] at hx
    rcases hx with rfl | rfl
    · exact hl
    · exact hm)
  rw [firstEE_two] at k
  exact k
set_option maxHeartbeats 4000000 in
set_option maxRecDepth 100000 in
theorem eWithin_any (a b : Enc) (w : World) (hG : Glob w) (hl : LenE a) (hm : LenE b) : Calls Tryz.prog 32 #[encV a, encV b] w (BoolP (withinE a b).1 (withinE a b).2 w) := by
  have HB := Lib.hid (checked_two a b w hG hl hm)
  unfold BoolP
  by_cases e0 : bothEE a b = 0
  · obtain ⟨ea, eb⟩ := bothEE_two e0
    obtain ⟨f1, f2, _⟩ := enc_right ea
    obtain ⟨f3, f4, _⟩ := enc_right eb
    have HO1 := Lib.hid (fun W (h : Ext w W) => eOrder_any b.1 a.1 W (hG.ext h) hm.1 hl.1 (bothE_zero f3 f1))
    have HO2 := Lib.hid (fun W (h : Ext w W) => eOrder_any a.2 b.2 W (hG.ext h) hl.2 hm.2 (bothE_zero f2 f4))
    have HR : Hid (withinE a b = (decide (ordQ b.1 a.1 ≤ 0) && decide (ordQ a.2 b.2 ≤ 0), 0)) := by show _ = _; unfold withinE; rw [if_neg (not_not_intro e0)]
    rw [e0] at HB
    clear e0 ea eb f1 f2 f3 f4 hl hm hG
    obtain ⟨l, h⟩ := a
    obtain ⟨m, k⟩ := b
    dsimp only [encV] at HB HO1 HO2 HR ⊢
    have hne0 : (((0 : Nat) : Int) != 0) = false := rfl
    generalize ordQ m l = z1 at *
    generalize ordQ h k = z2 at *
    obtain ⟨C, hC⟩ : ∃ C, C = withinE (l, h) (m, k) := ⟨_, rfl⟩
    rw [← hC] at HR ⊢
    clear hC
    by_cases h1 : z1 ≤ 0
    · rw [decide_eq_true h1] at HR
      have h1i : ¬ 0 < z1 := by omega
      have c0 : (((w.alloc (.cells #[txt l, txt h] 24)).alloc (.cells #[txt m, txt k] 24)).alloc (.cells #[txt l, txt h, txt m, txt k] 24)).cell? ⟨w.heap.size, 0, none⟩ = some (txt l) := by go_simp
      have c1 : (((w.alloc (.cells #[txt l, txt h] 24)).alloc (.cells #[txt m, txt k] 24)).alloc (.cells #[txt l, txt h, txt m, txt k] 24)).cell? ⟨w.heap.size, 1, none⟩ = some (txt h) := by go_simp
      have c2 : (((w.alloc (.cells #[txt l, txt h] 24)).alloc (.cells #[txt m, txt k] 24)).alloc (.cells #[txt l, txt h, txt m, txt k] 24)).cell? ⟨w.heap.size + 1, 0, none⟩ = some (txt m) := by go_simp
      have c3 : (((w.alloc (.cells #[txt l, txt h] 24)).alloc (.cells #[txt m, txt k] 24)).alloc (.cells #[txt l, txt h, txt m, txt k] 24)).cell? ⟨w.heap.size + 1, 1, none⟩ = some (txt k) := by go_simp
      go_enter Tryz.func32, Tryz.ntmps32
      go_wp2_with (go_at_call 79; refine (HB.out _ ((w.alloc (.cells #[txt l, txt h] 24)).alloc (.cells #[txt m, txt k] 24)) _ (by simp) rfl extA).mono ?_; rintro e w3 ⟨rfl, hE3⟩; have c0 := hE3.cell c0; have c1 := hE3.cell c1; have c2 := hE3.cell c2; have c3 := hE3.cell c3)
      go_wp2_with (go_at_call 84; with_reducible refine (HO1.out _ extA).mono ?_; rintro e w1 ⟨rfl, hE1⟩; have c0 := hE1.cell c0; have c1 := hE1.cell c1; have c2 := hE1.cell c2; have c3 := hE1.cell c3)
      go_wp2_with (go_at_call 84; with_reducible refine (HO2.out _ extA).mono ?_; rintro e w2 ⟨rfl, hE2⟩; skip)
      go_ret2
      exact ⟨by rw [HR.out]; simp, extA⟩
    · rw [decide_eq_false h1] at HR
      have c0 : (((w.alloc (.cells #[txt l, txt h] 24)).alloc (.cells #[txt m, txt k] 24)).alloc (.cells #[txt l, txt h, txt m, txt k] 24)).cell? ⟨w.heap.size, 0, none⟩ = some (txt l) := by go_simp
      have c1 : (((w.alloc (.cells #[txt l, txt h] 24)).alloc (.cells #[txt m, txt k] 24)).alloc (.cells #[txt l, txt h, txt m, txt k] 24)).cell? ⟨w.heap.size, 1, none⟩ = some (txt h) := by go_simp
      have c2 : (((w.alloc (.cells #[txt l, txt h] 24)).alloc (.cells #[txt m, txt k] 24)).alloc (.cells #[txt l, txt h, txt m, txt k] 24)).cell? ⟨w.heap.size + 1, 0, none⟩ = some (txt m) := by go_simp
      have c3 : (((w.alloc (.cells #[txt l, txt h] 24)).alloc (.cells #[txt m, txt k] 24)).alloc (.cells #[txt l, txt h, txt m, txt k] 24)).cell? ⟨w.heap.size + 1, 1, none⟩ = some (txt k) := by go_simp
      go_enter Tryz.func32, Tryz.ntmps32
      go_wp2_with (go_at_call 79; refine (HB.out _ ((w.alloc (.cells #[txt l, txt h] 24)).alloc (.cells #[txt m, txt k] 24)) _ (by simp) rfl extA).mono ?_; rintro e w3 ⟨rfl, hE3⟩; have c0 := hE3.cell c0; have c1 := hE3.cell c1; have c2 := hE3.cell c2; have c3 := hE3.cell c3)
      go_wp2_with (go_at_call 84; with_reducible refine (HO1.out _ extA).mono ?_; rintro e w1 ⟨rfl, hE1⟩; have c0 := hE1.cell c0; have c1 := hE1.cell c1; have c2 := hE1.cell c2; have c3 := hE1.cell c3)
      go_ret2
      exact ⟨by rw [HR.out]; simp, extA⟩
  · have HR : Hid (withinE a b = (false, bothEE a b)) := by show _ = _; unfold withinE; rw [if_pos e0]
    have hne : (((bothEE a b : Nat) : Int) != 0) = true := by rw [bne_iff_ne]; omega
    rw [HR.out]
    clear e0 HR hl hm hG
    generalize bothEE a b = n at *
    obtain ⟨l, h⟩ := a
    obtain ⟨m, k⟩ := b
    dsimp only [encV] at HB ⊢
    go_enter Tryz.func32, Tryz.ntmps32
    go_wp2_with (go_at_call 79; refine (HB.out _ ((w.alloc (.cells #[txt l, txt h] 24)).alloc (.cells #[txt m, txt k] 24)) _ (by simp) rfl extA).mono ?_; rintro e w3 ⟨rfl, hE3⟩; skip)
    go_ret2
    exact ⟨rfl, extA⟩
end Go.Proofs.YtdejgaiocjfhjaaGreatDoor
namespace Go.Proofs.YtdejgaiocjfhjaaGreatDoor
open Go.RowKit
structure EncAt (b : Nat) (W : World) (l h : Txt) : Prop where
  c0 : W.cell? ⟨b, 0, none⟩ = some (txt l)
  c1 : W.cell? ⟨b, 1, none⟩ = some (txt h)
  f0 : W.frozen? ⟨b, 0, none⟩ = false
  f1 : W.frozen? ⟨b, 1, none⟩ = false
theorem EncAt.ext {b : Nat} {A B : World} {l h : Txt} (x : EncAt b A l h) (e : Ext A B) : EncAt b B l h := by
  have hz : b < A.heap.size := cell_lt x.c0
  exact ⟨e.cell x.c0, e.cell x.c1, (Below.frozen (p := ⟨b, 0, none⟩) e hz).trans x.f0, (Below.frozen (p := ⟨b, 1, none⟩) e hz).trans x.f1⟩
end Go.Proofs.YtdejgaiocjfhjaaGreatDoor
namespace Go.Proofs.YtdejgaiocjfhjaaGreatDoor
open Go.RowKit
end Go.Proofs.YtdejgaiocjfhjaaGreatDoor
namespace Go.Proofs.YtdejgaiocjfhjaaGreatDoor
open Go.RowKit
theorem EncAt.set0 {b : Nat} {A : World} {l h : Txt} (x : EncAt b A l h) (v : Txt) : EncAt b (A.setCell ⟨b, 0, none⟩ (txt v)) v h :=
  ⟨World.cell?_setCell_same _ _ _ x.c0, by rw [World.cell?_setCell_other _ _ _ _ (fun h => by simp only [Addr.mk.injEq] at h; omega)]; exact x.c1, by rw [World.frozen?_setCell]; exact x.f0, by rw [World.frozen?_setCell]; exact x.f1⟩
theorem EncAt.set1 {b : Nat} {A : World} {l h : Txt} (x : EncAt b A l h) (v : Txt) : EncAt b (A.setCell ⟨b, 1, none⟩ (txt v)) l v :=
  ⟨by rw [World.cell?_setCell_other _ _ _ _ (fun h => by simp only [Addr.mk.injEq] at h; omega)]; exact x.c0, World.cell?_setCell_same _ _ _ x.c1, by rw [World.frozen?_setCell]; exact x.f0, by rw [World.frozen?_setCell]; exact x.f1⟩
theorem EncAt.other {b c o : Nat} {A : World} {l h : Txt} {v : Value} (x : EncAt b A l h) (hn : b ≠ c) : EncAt b (A.setCell ⟨c, o, none⟩ v) l h :=
  ⟨by rw [World.cell?_setCell_other _ _ _ _ (fun h => by simp only [Addr.mk.injEq] at h; omega)]; exact x.c0, by rw [World.cell?_setCell_other _ _ _ _ (fun h => by simp only [Addr.mk.injEq] at h; omega)]; exact x.c1, by rw [World.frozen?_setCell]; exact x.f0, by rw [World.frozen?_setCell]; exact x.f1⟩
set_option maxHeartbeats 8000000 in
set_option maxRecDepth 100000 in
theorem eHull_any (a b : Enc) (w : World) (hG : Glob w) (hl : LenE a) (hm : LenE b) : Calls Tryz.prog 30 #[encV a, encV b] w (EncP (hullE a b) w) := by
  have HB := Lib.hid (checked_two a b w hG hl hm)
  unfold EncP
  obtain ⟨C, hC⟩ : ∃ C, C = hullE a b := ⟨_, rfl⟩
  rw [← hC]
  have hne0 : (((0 : Nat) : Int) != 0) = false := rfl
  by_cases e0 : bothEE a b = 0
  rotate_left
  · have HR : Hid (C = (([], []), bothEE a b)) := by show _ = _; rw [hC]; unfold hullE badEnc; rw [if_pos e0]
    have hne : (((bothEE a b : Nat) : Int) != 0) = true := by rw [bne_iff_ne]; omega
    clear e0 hC hl hm hG
    generalize bothEE a b = n at *
    obtain ⟨l, h⟩ := a
    obtain ⟨m, k⟩ := b
    dsimp only [encV] at HB ⊢
    have c0 : ((((w.alloc (.cells #[txt l, txt h] 24)).alloc (.cells #[txt m, txt k] 24)).alloc (.cells #[.string ⟨#[]⟩, .string ⟨#[]⟩] 24)).alloc (.cells #[txt l, txt h, txt m, txt k] 24)).cell? ⟨w.heap.size, 0, none⟩ = some (txt l) := by go_simp
    have c1 : ((((w.alloc (.cells #[txt l, txt h] 24)).alloc (.cells #[txt m, txt k] 24)).alloc (.cells #[.string ⟨#[]⟩, .string ⟨#[]⟩] 24)).alloc (.cells #[txt l, txt h, txt m, txt k] 24)).cell? ⟨w.heap.size, 1, none⟩ = some (txt h) := by go_simp
    have c2 : ((((w.alloc (.cells #[txt l, txt h] 24)).alloc (.cells #[txt m, txt k] 24)).alloc (.cells #[.string ⟨#[]⟩, .string ⟨#[]⟩] 24)).alloc (.cells #[txt l, txt h, txt m, txt k] 24)).cell? ⟨w.heap.size + 1, 0, none⟩ = some (txt m) := by go_simp
    have c3 : ((((w.alloc (.cells #[txt l, txt h] 24)).alloc (.cells #[txt m, txt k] 24)).alloc (.cells #[.string ⟨#[]⟩, .string ⟨#[]⟩] 24)).alloc (.cells #[txt l, txt h, txt m, txt k] 24)).cell? ⟨w.heap.size + 1, 1, none⟩ = some (txt k) := by go_simp
    have X : EncAt (w.heap.size + 1 + 1) ((((w.alloc (.cells #[txt l, txt h] 24)).alloc (.cells #[txt m, txt k] 24)).alloc (.cells #[.string ⟨#[]⟩, .string ⟨#[]⟩] 24)).alloc (.cells #[txt l, txt h, txt m, txt k] 24)) [] [] := ⟨by go_simp, by go_simp, by go_simp, by go_simp⟩
    have hZ : Ext w ((((w.alloc (.cells #[txt l, txt h] 24)).alloc (.cells #[txt m, txt k] 24)).alloc (.cells #[.string ⟨#[]⟩, .string ⟨#[]⟩] 24)).alloc (.cells #[txt l, txt h, txt m, txt k] 24)) := extA
    go_enter Tryz.func30, Tryz.ntmps30
    go_wp2_with (go_at_call 79; (refine (HB.out _ (((w.alloc (.cells #[txt l, txt h] 24)).alloc (.cells #[txt m, txt k] 24)).alloc (.cells #[.string ⟨#[]⟩, .string ⟨#[]⟩] 24)) _ (by simp) rfl extA).mono ?_); rintro e w3 ⟨rfl, hE3⟩; have c0 := hE3.cell c0; have c1 := hE3.cell c1; have c2 := hE3.cell c2; have c3 := hE3.cell c3; have b0 := cell_lt c0; have b1 := cell_lt c2; dsimp only at b0 b1; obtain ⟨d0, d1, g0, g1⟩ := X.ext hE3)
    refine bodyPost_ret (v := .tuple #[.agg #[txt [], txt []], .int .i64 (n : Nat)]) (by rw [results_cell_tmp1 rfl]; go_simp) rfl ?_
    exact ⟨by first | (rw [HR.out]; done) | (rw [HR.out]; rfl), extA⟩
  obtain ⟨ea, eb⟩ := bothEE_two e0
  obtain ⟨f1, f2, _⟩ := enc_right ea
  obtain ⟨f3, f4, _⟩ := enc_right eb
  have HO1 := Lib.hid (fun W (h : Ext w W) => eOrder_any b.1 a.1 W (hG.ext h) hm.1 hl.1 (bothE_zero f3 f1))
  have HO2 := Lib.hid (fun W (h : Ext w W) => eOrder_any b.2 a.2 W (hG.ext h) hm.2 hl.2 (bothE_zero f4 f2))
  have HR : Hid (C = ((if ordQ b.1 a.1 < 0 then b.1 else a.1, if 0 < ordQ b.2 a.2 then b.2 else a.2), 0)) := by show _ = _; rw [hC]; unfold hullE lowHull highHull; rw [if_neg (not_not_intro e0)]
  rw [e0] at HB
  clear e0 ea eb f1 f2 f3 f4 hl hm hG hC
  obtain ⟨l, h⟩ := a
  obtain ⟨m, k⟩ := b
  dsimp only [encV] at HB HO1 HO2 HR ⊢
  generalize ordQ m l = z1 at *
  generalize ordQ k h = z2 at *
  by_cases h1 : z1 < 0
  · rw [if_pos h1] at HR
    by_cases h2 : 0 < z2
    · rw [if_pos h2] at HR
      have c0 : ((((w.alloc (.cells #[txt l, txt h] 24)).alloc (.cells #[txt m, txt k] 24)).alloc (.cells #[.string ⟨#[]⟩, .string ⟨#[]⟩] 24)).alloc (.cells #[txt l, txt h, txt m, txt k] 24)).cell? ⟨w.heap.size, 0, none⟩ = some (txt l) := by go_simp
      have c1 : ((((w.alloc (.cells #[txt l, txt h] 24)).alloc (.cells #[txt m, txt k] 24)).alloc (.cells #[.string ⟨#[]⟩, .string ⟨#[]⟩] 24)).alloc (.cells #[txt l, txt h, txt m, txt k] 24)).cell? ⟨w.heap.size, 1, none⟩ = some (txt h) := by go_simp
      have c2 : ((((w.alloc (.cells #[txt l, txt h] 24)).alloc (.cells #[txt m, txt k] 24)).alloc (.cells #[.string ⟨#[]⟩, .string ⟨#[]⟩] 24)).alloc (.cells #[txt l, txt h, txt m, txt k] 24)).cell? ⟨w.heap.size + 1, 0, none⟩ = some (txt m) := by go_simp
      have c3 : ((((w.alloc (.cells #[txt l, txt h] 24)).alloc (.cells #[txt m, txt k] 24)).alloc (.cells #[.string ⟨#[]⟩, .string ⟨#[]⟩] 24)).alloc (.cells #[txt l, txt h, txt m, txt k] 24)).cell? ⟨w.heap.size + 1, 1, none⟩ = some (txt k) := by go_simp
      have X : EncAt (w.heap.size + 1 + 1) ((((w.alloc (.cells #[txt l, txt h] 24)).alloc (.cells #[txt m, txt k] 24)).alloc (.cells #[.string ⟨#[]⟩, .string ⟨#[]⟩] 24)).alloc (.cells #[txt l, txt h, txt m, txt k] 24)) [] [] := ⟨by go_simp, by go_simp, by go_simp, by go_simp⟩
      have hZ : Ext w ((((w.alloc (.cells #[txt l, txt h] 24)).alloc (.cells #[txt m, txt k] 24)).alloc (.cells #[.string ⟨#[]⟩, .string ⟨#[]⟩] 24)).alloc (.cells #[txt l, txt h, txt m, txt k] 24)) := extA
      have P : EncAt w.heap.size ((((w.alloc (.cells #[txt l, txt h] 24)).alloc (.cells #[txt m, txt k] 24)).alloc (.cells #[.string ⟨#[]⟩, .string ⟨#[]⟩] 24)).alloc (.cells #[txt l, txt h, txt m, txt k] 24)) l h := ⟨c0, c1, by go_simp, by go_simp⟩
      have Q : EncAt (w.heap.size + 1) ((((w.alloc (.cells #[txt l, txt h] 24)).alloc (.cells #[txt m, txt k] 24)).alloc (.cells #[.string ⟨#[]⟩, .string ⟨#[]⟩] 24)).alloc (.cells #[txt l, txt h, txt m, txt k] 24)) m k := ⟨c2, c3, by go_simp, by go_simp⟩
      go_enter Tryz.func30, Tryz.ntmps30
      go_wp2_with (go_at_call 79; (refine (HB.out _ (((w.alloc (.cells #[txt l, txt h] 24)).alloc (.cells #[txt m, txt k] 24)).alloc (.cells #[.string ⟨#[]⟩, .string ⟨#[]⟩] 24)) _ (by simp) rfl extA).mono ?_); rintro e w3 ⟨rfl, hE3⟩; have c0 := hE3.cell c0; have c1 := hE3.cell c1; have c2 := hE3.cell c2; have c3 := hE3.cell c3; have b0 := cell_lt c0; have b1 := cell_lt c2; dsimp only at b0 b1)
      have hA : Ext w3 (w3.alloc (.cells #[txt l, txt h] 24)) := extA
      have Y : EncAt w3.heap.size (w3.alloc (.cells #[txt l, txt h] 24)) l h := ⟨by go_simp, by go_simp, by go_simp, by go_simp⟩
      have s3 : w.heap.size + 1 + 1 < w3.heap.size := cell_lt (X.ext hE3).c0
      have E := (hZ.trans hE3).trans hA
      replace X := (X.ext hE3).ext hA
      replace P := (P.ext hE3).ext hA
      replace Q := (Q.ext hE3).ext hA
      obtain ⟨ob, hob⟩ : ∃ ob, ob = w3.heap.size := ⟨_, rfl⟩
      have n0 : w.heap.size ≠ ob := by omega
      have n1 : w.heap.size + 1 ≠ ob := by omega
      have n2 : w.heap.size + 1 + 1 ≠ ob := by omega
      have hwb : w.heap.size ≤ ob := by omega
      rw [← hob] at Y ⊢
      generalize w3.alloc (.cells #[txt l, txt h] 24) = w4 at Y E X P Q ⊢
      clear hA hE3 hZ s3 hob b0 b1 c0 c1 c2 c3
      go_wp2_with (go_at_call 84; have hh := HO1; clear HO1; (refine (hh.out _ E).mono ?_); clear hh; rintro e w5 ⟨rfl, hE⟩; have P5 := Lib.hid ((P).ext hE); have Q5 := Lib.hid ((Q).ext hE); have X5 := Lib.hid ((X).ext hE); have Y5 := Lib.hid ((Y).ext hE); obtain ⟨c0, c1, _, _⟩ := P5.out; obtain ⟨c2, c3, _, _⟩ := Q5.out; obtain ⟨d0, d1, g0, g1⟩ := X5.out; obtain ⟨y0, y1, p0, p1⟩ := Y5.out)
      replace E := E.trans hE
      clear P Q X Y hE c0 c1 c2 c3 d0 d1 g0 g1 y0 y1 p0 p1
      have P := P5.out.other (o := 0) (v := txt m) n0
      have Q := Q5.out.other (o := 0) (v := txt m) n1
      have X := X5.out.other (o := 0) (v := txt m) n2
      have Y := Y5.out.set0 m
      replace E := E.set hwb (o := 0) (txt m)
      clear P5 Q5 X5 Y5
      go_wp2_with (go_at_call 84; have hh := HO2; clear HO2; (refine (hh.out _ E).mono ?_); clear hh; rintro e w6 ⟨rfl, hE⟩; have P5 := Lib.hid ((P).ext hE); have Q5 := Lib.hid ((Q).ext hE); have X5 := Lib.hid ((X).ext hE); have Y5 := Lib.hid ((Y).ext hE); obtain ⟨c0, c1, _, _⟩ := P5.out; obtain ⟨c2, c3, _, _⟩ := Q5.out; obtain ⟨d0, d1, g0, g1⟩ := X5.out; obtain ⟨y0, y1, p0, p1⟩ := Y5.out)
      replace E := E.trans hE
      refine bodyPost_ret (v := .tuple #[.agg #[txt m, txt k], .int .i64 0]) (by rw [results_cell_tmp1 rfl]; go_simp) rfl ?_
      exact ⟨by first | (rw [HR.out]; done) | (rw [HR.out]; rfl), extA⟩
    · rw [if_neg h2] at HR
      have c0 : ((((w.alloc (.cells #[txt l, txt h] 24)).alloc (.cells #[txt m, txt k] 24)).alloc (.cells #[.string ⟨#[]⟩, .string ⟨#[]⟩] 24)).alloc (.cells #[txt l, txt h, txt m, txt k] 24)).cell? ⟨w.heap.size, 0, none⟩ = some (txt l) := by go_simp
      have c1 : ((((w.alloc (.cells #[txt l, txt h] 24)).alloc (.cells #[txt m, txt k] 24)).alloc (.cells #[.string ⟨#[]⟩, .string ⟨#[]⟩] 24)).alloc (.cells #[txt l, txt h, txt m, txt k] 24)).cell? ⟨w.heap.size, 1, none⟩ = some (txt h) := by go_simp
      have c2 : ((((w.alloc (.cells #[txt l, txt h] 24)).alloc (.cells #[txt m, txt k] 24)).alloc (.cells #[.string ⟨#[]⟩, .string ⟨#[]⟩] 24)).alloc (.cells #[txt l, txt h, txt m, txt k] 24)).cell? ⟨w.heap.size + 1, 0, none⟩ = some (txt m) := by go_simp
      have c3 : ((((w.alloc (.cells #[txt l, txt h] 24)).alloc (.cells #[txt m, txt k] 24)).alloc (.cells #[.string ⟨#[]⟩, .string ⟨#[]⟩] 24)).alloc (.cells #[txt l, txt h, txt m, txt k] 24)).cell? ⟨w.heap.size + 1, 1, none⟩ = some (txt k) := by go_simp
      have X : EncAt (w.heap.size + 1 + 1) ((((w.alloc (.cells #[txt l, txt h] 24)).alloc (.cells #[txt m, txt k] 24)).alloc (.cells #[.string ⟨#[]⟩, .string ⟨#[]⟩] 24)).alloc (.cells #[txt l, txt h, txt m, txt k] 24)) [] [] := ⟨by go_simp, by go_simp, by go_simp, by go_simp⟩
      have hZ : Ext w ((((w.alloc (.cells #[txt l, txt h] 24)).alloc (.cells #[txt m, txt k] 24)).alloc (.cells #[.string ⟨#[]⟩, .string ⟨#[]⟩] 24)).alloc (.cells #[txt l, txt h, txt m, txt k] 24)) := extA
      have P : EncAt w.heap.size ((((w.alloc (.cells #[txt l, txt h] 24)).alloc (.cells #[txt m, txt k] 24)).alloc (.cells #[.string ⟨#[]⟩, .string ⟨#[]⟩] 24)).alloc (.cells #[txt l, txt h, txt m, txt k] 24)) l h := ⟨c0, c1, by go_simp, by go_simp⟩
      have Q : EncAt (w.heap.size + 1) ((((w.alloc (.cells #[txt l, txt h] 24)).alloc (.cells #[txt m, txt k] 24)).alloc (.cells #[.string ⟨#[]⟩, .string ⟨#[]⟩] 24)).alloc (.cells #[txt l, txt h, txt m, txt k] 24)) m k := ⟨c2, c3, by go_simp, by go_simp⟩
      go_enter Tryz.func30, Tryz.ntmps30
      go_wp2_with (go_at_call 79; (refine (HB.out _ (((w.alloc (.cells #[txt l, txt h] 24)).alloc (.cells #[txt m, txt k] 24)).alloc (.cells #[.string ⟨#[]⟩, .string ⟨#[]⟩] 24)) _ (by simp) rfl extA).mono ?_); rintro e w3 ⟨rfl, hE3⟩; have c0 := hE3.cell c0; have c1 := hE3.cell c1; have c2 := hE3.cell c2; have c3 := hE3.cell c3; have b0 := cell_lt c0; have b1 := cell_lt c2; dsimp only at b0 b1)
      have hA : Ext w3 (w3.alloc (.cells #[txt l, txt h] 24)) := extA
      have Y : EncAt w3.heap.size (w3.alloc (.cells #[txt l, txt h] 24)) l h := ⟨by go_simp, by go_simp, by go_simp, by go_simp⟩
      have s3 : w.heap.size + 1 + 1 < w3.heap.size := cell_lt (X.ext hE3).c0
      have E := (hZ.trans hE3).trans hA
      replace X := (X.ext hE3).ext hA
      replace P := (P.ext hE3).ext hA
      replace Q := (Q.ext hE3).ext hA
      obtain ⟨ob, hob⟩ : ∃ ob, ob = w3.heap.size := ⟨_, rfl⟩
      have n0 : w.heap.size ≠ ob := by omega
      have n1 : w.heap.size + 1 ≠ ob := by omega
      have n2 : w.heap.size + 1 + 1 ≠ ob := by omega
      have hwb : w.heap.size ≤ ob := by omega
      rw [← hob] at Y ⊢
      generalize w3.alloc (.cells #[txt l, txt h] 24) = w4 at Y E X P Q ⊢
      clear hA hE3 hZ s3 hob b0 b1 c0 c1 c2 c3
      go_wp2_with (go_at_call 84; have hh := HO1; clear HO1; (refine (hh.out _ E).mono ?_); clear hh; rintro e w5 ⟨rfl, hE⟩; have P5 := Lib.hid ((P).ext hE); have Q5 := Lib.hid ((Q).ext hE); have X5 := Lib.hid ((X).ext hE); have Y5 := Lib.hid ((Y).ext hE); obtain ⟨c0, c1, _, _⟩ := P5.out; obtain ⟨c2, c3, _, _⟩ := Q5.out; obtain ⟨d0, d1, g0, g1⟩ := X5.out; obtain ⟨y0, y1, p0, p1⟩ := Y5.out)
      replace E := E.trans hE
      clear P Q X Y hE c0 c1 c2 c3 d0 d1 g0 g1 y0 y1 p0 p1
      have P := P5.out.other (o := 0) (v := txt m) n0
      have Q := Q5.out.other (o := 0) (v := txt m) n1
      have X := X5.out.other (o := 0) (v := txt m) n2
      have Y := Y5.out.set0 m
      replace E := E.set hwb (o := 0) (txt m)
      clear P5 Q5 X5 Y5
      go_wp2_with (go_at_call 84; have hh := HO2; clear HO2; (refine (hh.out _ E).mono ?_); clear hh; rintro e w6 ⟨rfl, hE⟩; have P5 := Lib.hid ((P).ext hE); have Q5 := Lib.hid ((Q).ext hE); have X5 := Lib.hid ((X).ext hE); have Y5 := Lib.hid ((Y).ext hE); obtain ⟨c0, c1, _, _⟩ := P5.out; obtain ⟨c2, c3, _, _⟩ := Q5.out; obtain ⟨d0, d1, g0, g1⟩ := X5.out; obtain ⟨y0, y1, p0, p1⟩ := Y5.out)
      replace E := E.trans hE
      refine bodyPost_ret (v := .tuple #[.agg #[txt m, txt h], .int .i64 0]) (by rw [results_cell_tmp1 rfl]; go_simp) rfl ?_
      exact ⟨by first | (rw [HR.out]; done) | (rw [HR.out]; rfl), extA⟩
  · rw [if_neg h1] at HR
    by_cases h2 : 0 < z2
    · rw [if_pos h2] at HR
      have c0 : ((((w.alloc (.cells #[txt l, txt h] 24)).alloc (.cells #[txt m, txt k] 24)).alloc (.cells #[.string ⟨#[]⟩, .string ⟨#[]⟩] 24)).alloc (.cells #[txt l, txt h, txt m, txt k] 24)).cell? ⟨w.heap.size, 0, none⟩ = some (txt l) := by go_simp
      have c1 : ((((w.alloc (.cells #[txt l, txt h] 24)).alloc (.cells #[txt m, txt k] 24)).alloc (.cells #[.string ⟨#[]⟩, .string ⟨#[]⟩] 24)).alloc (.cells #[txt l, txt h, txt m, txt k] 24)).cell? ⟨w.heap.size, 1, none⟩ = some (txt h) := by go_simp
      have c2 : ((((w.alloc (.cells #[txt l, txt h] 24)).alloc (.cells #[txt m, txt k] 24)).alloc (.cells #[.string ⟨#[]⟩, .string ⟨#[]⟩] 24)).alloc (.cells #[txt l, txt h, txt m, txt k] 24)).cell? ⟨w.heap.size + 1, 0, none⟩ = some (txt m) := by go_simp
      have c3 : ((((w.alloc (.cells #[txt l, txt h] 24)).alloc (.cells #[txt m, txt k] 24)).alloc (.cells #[.string ⟨#[]⟩, .string ⟨#[]⟩] 24)).alloc (.cells #[txt l, txt h, txt m, txt k] 24)).cell? ⟨w.heap.size + 1, 1, none⟩ = some (txt k) := by go_simp
      have X : EncAt (w.heap.size + 1 + 1) ((((w.alloc (.cells #[txt l, txt h] 24)).alloc (.cells #[txt m, txt k] 24)).alloc (.cells #[.string ⟨#[]⟩, .string ⟨#[]⟩] 24)).alloc (.cells #[txt l, txt h, txt m, txt k] 24)) [] [] := ⟨by go_simp, by go_simp, by go_simp, by go_simp⟩
      have hZ : Ext w ((((w.alloc (.cells #[txt l, txt h] 24)).alloc (.cells #[txt m, txt k] 24)).alloc (.cells #[.string ⟨#[]⟩, .string ⟨#[]⟩] 24)).alloc (.cells #[txt l, txt h, txt m, txt k] 24)) := extA
      have P : EncAt w.heap.size ((((w.alloc (.cells #[txt l, txt h] 24)).alloc (.cells #[txt m, txt k] 24)).alloc (.cells #[.string ⟨#[]⟩, .string ⟨#[]⟩] 24)).alloc (.cells #[txt l, txt h, txt m, txt k] 24)) l h := ⟨c0, c1, by go_simp, by go_simp⟩
      have Q : EncAt (w.heap.size + 1) ((((w.alloc (.cells #[txt l, txt h] 24)).alloc (.cells #[txt m, txt k] 24)).alloc (.cells #[.string ⟨#[]⟩, .string ⟨#[]⟩] 24)).alloc (.cells #[txt l, txt h, txt m, txt k] 24)) m k := ⟨c2, c3, by go_simp, by go_simp⟩
      go_enter Tryz.func30, Tryz.ntmps30
      go_wp2_with (go_at_call 79; (refine (HB.out _ (((w.alloc (.cells #[txt l, txt h] 24)).alloc (.cells #[txt m, txt k] 24)).alloc (.cells #[.string ⟨#[]⟩, .string ⟨#[]⟩] 24)) _ (by simp) rfl extA).mono ?_); rintro e w3 ⟨rfl, hE3⟩; have c0 := hE3.cell c0; have c1 := hE3.cell c1; have c2 := hE3.cell c2; have c3 := hE3.cell c3; have b0 := cell_lt c0; have b1 := cell_lt c2; dsimp only at b0 b1)
      have hA : Ext w3 (w3.alloc (.cells #[txt l, txt h] 24)) := extA
      have Y : EncAt w3.heap.size (w3.alloc (.cells #[txt l, txt h] 24)) l h := ⟨by go_simp, by go_simp, by go_simp, by go_simp⟩
      have s3 : w.heap.size + 1 + 1 < w3.heap.size := cell_lt (X.ext hE3).c0
      have E := (hZ.trans hE3).trans hA
      replace X := (X.ext hE3).ext hA
      replace P := (P.ext hE3).ext hA
      replace Q := (Q.ext hE3).ext hA
      obtain ⟨ob, hob⟩ : ∃ ob, ob = w3.heap.size := ⟨_, rfl⟩
      have n0 : w.heap.size ≠ ob := by omega
      have n1 : w.heap.size + 1 ≠ ob := by omega
      have n2 : w.heap.size + 1 + 1 ≠ ob := by omega
      have hwb : w.heap.size ≤ ob := by omega
      rw [← hob] at Y ⊢
      generalize w3.alloc (.cells #[txt l, txt h] 24) = w4 at Y E X P Q ⊢
      clear hA hE3 hZ s3 hob b0 b1 c0 c1 c2 c3
      go_wp2_with (go_at_call 84; have hh := HO1; clear HO1; (refine (hh.out _ E).mono ?_); clear hh; rintro e w5 ⟨rfl, hE⟩; have P5 := Lib.hid ((P).ext hE); have Q5 := Lib.hid ((Q).ext hE); have X5 := Lib.hid ((X).ext hE); have Y5 := Lib.hid ((Y).ext hE); obtain ⟨c0, c1, _, _⟩ := P5.out; obtain ⟨c2, c3, _, _⟩ := Q5.out; obtain ⟨d0, d1, g0, g1⟩ := X5.out; obtain ⟨y0, y1, p0, p1⟩ := Y5.out)
      replace E := E.trans hE
      clear P Q X Y hE c0 c1 c2 c3 d0 d1 g0 g1 y0 y1 p0 p1
      have P := P5.out
      have Q := Q5.out
      have X := X5.out
      have Y := Y5.out
      clear P5 Q5 X5 Y5
      go_wp2_with (go_at_call 84; have hh := HO2; clear HO2; (refine (hh.out _ E).mono ?_); clear hh; rintro e w6 ⟨rfl, hE⟩; have P5 := Lib.hid ((P).ext hE); have Q5 := Lib.hid ((Q).ext hE); have X5 := Lib.hid ((X).ext hE); have Y5 := Lib.hid ((Y).ext hE); obtain ⟨c0, c1, _, _⟩ := P5.out; obtain ⟨c2, c3, _, _⟩ := Q5.out; obtain ⟨d0, d1, g0, g1⟩ := X5.out; obtain ⟨y0, y1, p0, p1⟩ := Y5.out)
      replace E := E.trans hE
      refine bodyPost_ret (v := .tuple #[.agg #[txt l, txt k], .int .i64 0]) (by rw [results_cell_tmp1 rfl]; go_simp) rfl ?_
      exact ⟨by first | (rw [HR.out]; done) | (rw [HR.out]; rfl), extA⟩
    · rw [if_neg h2] at HR
      have c0 : ((((w.alloc (.cells #[txt l, txt h] 24)).alloc (.cells #[txt m, txt k] 24)).alloc (.cells #[.string ⟨#[]⟩, .string ⟨#[]⟩] 24)).alloc (.cells #[txt l, txt h, txt m, txt k] 24)).cell? ⟨w.heap.size, 0, none⟩ = some (txt l) := by go_simp
      have c1 : ((((w.alloc (.cells #[txt l, txt h] 24)).alloc (.cells #[txt m, txt k] 24)).alloc (.cells #[.string ⟨#[]⟩, .string ⟨#[]⟩] 24)).alloc (.cells #[txt l, txt h, txt m, txt k] 24)).cell? ⟨w.heap.size, 1, none⟩ = some (txt h) := by go_simp
      have c2 : ((((w.alloc (.cells #[txt l, txt h] 24)).alloc (.cells #[txt m, txt k] 24)).alloc (.cells #[.string ⟨#[]⟩, .string ⟨#[]⟩] 24)).alloc (.cells #[txt l, txt h, txt m, txt k] 24)).cell? ⟨w.heap.size + 1, 0, none⟩ = some (txt m) := by go_simp
      have c3 : ((((w.alloc (.cells #[txt l, txt h] 24)).alloc (.cells #[txt m, txt k] 24)).alloc (.cells #[.string ⟨#[]⟩, .string ⟨#[]⟩] 24)).alloc (.cells #[txt l, txt h, txt m, txt k] 24)).cell? ⟨w.heap.size + 1, 1, none⟩ = some (txt k) := by go_simp
      have X : EncAt (w.heap.size + 1 + 1) ((((w.alloc (.cells #[txt l, txt h] 24)).alloc (.cells #[txt m, txt k] 24)).alloc (.cells #[.string ⟨#[]⟩, .string ⟨#[]⟩] 24)).alloc (.cells #[txt l, txt h, txt m, txt k] 24)) [] [] := ⟨by go_simp, by go_simp, by go_simp, by go_simp⟩
      have hZ : Ext w ((((w.alloc (.cells #[txt l, txt h] 24)).alloc (.cells #[txt m, txt k] 24)).alloc (.cells #[.string ⟨#[]⟩, .string ⟨#[]⟩] 24)).alloc (.cells #[txt l, txt h, txt m, txt k] 24)) := extA
      have P : EncAt w.heap.size ((((w.alloc (.cells #[txt l, txt h] 24)).alloc (.cells #[txt m, txt k] 24)).alloc (.cells #[.string ⟨#[]⟩, .string ⟨#[]⟩] 24)).alloc (.cells #[txt l, txt h, txt m, txt k] 24)) l h := ⟨c0, c1, by go_simp, by go_simp⟩
      have Q : EncAt (w.heap.size + 1) ((((w.alloc (.cells #[txt l, txt h] 24)).alloc (.cells #[txt m, txt k] 24)).alloc (.cells #[.string ⟨#[]⟩, .string ⟨#[]⟩] 24)).alloc (.cells #[txt l, txt h, txt m, txt k] 24)) m k := ⟨c2, c3, by go_simp, by go_simp⟩
      go_enter Tryz.func30, Tryz.ntmps30
      go_wp2_with (go_at_call 79; (refine (HB.out _ (((w.alloc (.cells #[txt l, txt h] 24)).alloc (.cells #[txt m, txt k] 24)).alloc (.cells #[.string ⟨#[]⟩, .string ⟨#[]⟩] 24)) _ (by simp) rfl extA).mono ?_); rintro e w3 ⟨rfl, hE3⟩; have c0 := hE3.cell c0; have c1 := hE3.cell c1; have c2 := hE3.cell c2; have c3 := hE3.cell c3; have b0 := cell_lt c0; have b1 := cell_lt c2; dsimp only at b0 b1)
      have hA : Ext w3 (w3.alloc (.cells #[txt l, txt h] 24)) := extA
      have Y : EncAt w3.heap.size (w3.alloc (.cells #[txt l, txt h] 24)) l h := ⟨by go_simp, by go_simp, by go_simp, by go_simp⟩
      have s3 : w.heap.size + 1 + 1 < w3.heap.size := cell_lt (X.ext hE3).c0
      have E := (hZ.trans hE3).trans hA
      replace X := (X.ext hE3).ext hA
      replace P := (P.ext hE3).ext hA
      replace Q := (Q.ext hE3).ext hA
      obtain ⟨ob, hob⟩ : ∃ ob, ob = w3.heap.size := ⟨_, rfl⟩
      have n0 : w.heap.size ≠ ob := by omega
      have n1 : w.heap.size + 1 ≠ ob := by omega
      have n2 : w.heap.size + 1 + 1 ≠ ob := by omega
      have hwb : w.heap.size ≤ ob := by omega
      rw [← hob] at Y ⊢
      generalize w3.alloc (.cells #[txt l, txt h] 24) = w4 at Y E X P Q ⊢
      clear hA hE3 hZ s3 hob b0 b1 c0 c1 c2 c3
      go_wp2_with (go_at_call 84; have hh := HO1; clear HO1; (refine (hh.out _ E).mono ?_); clear hh; rintro e w5 ⟨rfl, hE⟩; have P5 := Lib.hid ((P).ext hE); have Q5 := Lib.hid ((Q).ext hE); have X5 := Lib.hid ((X).ext hE); have Y5 := Lib.hid ((Y).ext hE); obtain ⟨c0, c1, _, _⟩ := P5.out; obtain ⟨c2, c3, _, _⟩ := Q5.out; obtain ⟨d0, d1, g0, g1⟩ := X5.out; obtain ⟨y0, y1, p0, p1⟩ := Y5.out)
      replace E := E.trans hE
      clear P Q X Y hE c0 c1 c2 c3 d0 d1 g0 g1 y0 y1 p0 p1
      have P := P5.out
      have Q := Q5.out
      have X := X5.out
      have Y := Y5.out
      clear P5 Q5 X5 Y5
      go_wp2_with (go_at_call 84; have hh := HO2; clear HO2; (refine (hh.out _ E).mono ?_); clear hh; rintro e w6 ⟨rfl, hE⟩; have P5 := Lib.hid ((P).ext hE); have Q5 := Lib.hid ((Q).ext hE); have X5 := Lib.hid ((X).ext hE); have Y5 := Lib.hid ((Y).ext hE); obtain ⟨c0, c1, _, _⟩ := P5.out; obtain ⟨c2, c3, _, _⟩ := Q5.out; obtain ⟨d0, d1, g0, g1⟩ := X5.out; obtain ⟨y0, y1, p0, p1⟩ := Y5.out)
      replace E := E.trans hE
      refine bodyPost_ret (v := .tuple #[.agg #[txt l, txt h], .int .i64 0]) (by rw [results_cell_tmp1 rfl]; go_simp) rfl ?_
      exact ⟨by first | (rw [HR.out]; done) | (rw [HR.out]; rfl), extA⟩
end Go.Proofs.YtdejgaiocjfhjaaGreatDoor
namespace Go.Proofs.YtdejgaiocjfhjaaGreatDoor
open Go.RowKit
structure FourV (g : Nat) (W : World) (l : List Txt) (E : Nat) (a : Option Addr) (cap : Nat) : Prop where
  c0 : W.cell? ⟨g, 0, none⟩ = some (.slice a l.length cap)
  c1 : W.cell? ⟨g, 1, none⟩ = some (.int .i64 (E : Nat))
  cs : CellsT W a l
theorem FourV.ext {g : Nat} {A B : World} {l : List Txt} {E : Nat} {a : Option Addr} {cap : Nat} (x : FourV g A l E a cap) (e : Ext A B) : FourV g B l E a cap := ⟨e.cell x.c0, e.cell x.c1, x.cs.ext e⟩
end Go.Proofs.YtdejgaiocjfhjaaGreatDoor
