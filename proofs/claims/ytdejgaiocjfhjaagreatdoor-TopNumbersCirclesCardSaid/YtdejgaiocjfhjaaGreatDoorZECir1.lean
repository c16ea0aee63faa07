/- Steps of the proof: FLongR, FOfR, FAwk, EOpen, ELaw3, ELaw4, ETopP, ETopC, ELRig, ETopCW. No conditions. -/
import Derived.Lib.SmallJoins
import Derived.Deep.Slices
import Derived.Test.YtdejgaiocjfhjaaGreatDoorZEB1
import Derived.Test.YtdejgaiocjfhjaaGreatDoorZEB2
import Derived.Test.YtdejgaiocjfhjaaGreatDoorZEB3
import Derived.Test.YtdejgaiocjfhjaaGreatDoorZEB4
import Derived.Test.YtdejgaiocjfhjaaGreatDoorZEB5
import Derived.Test.YtdejgaiocjfhjaaGreatDoorZEB6
import Derived.Test.YtdejgaiocjfhjaaGreatDoorZEB7
import Derived.Test.YtdejgaiocjfhjaaGreatDoorZEB8
import Derived.Test.YtdejgaiocjfhjaaGreatDoorZEB9
import Derived.Test.YtdejgaiocjfhjaaGreatDoorZEB10
import Derived.Test.YtdejgaiocjfhjaaGreatDoorZEB11
import Derived.Test.YtdejgaiocjfhjaaGreatDoorZEB12
namespace Go.Proofs.YtdejgaiocjfhjaaGreatDoor
open Go.RowKit
set_option maxHeartbeats 4000000 in
set_option maxRecDepth 100000 in
theorem longR_any (x : Nat) (hx : x < 9223372036854775808) (w : World) :
    Calls Tryz.prog 137 #[.int .i64 (x : Int)] w (OwnNPost .i64 3 (toB 1000000 x) w) := by
  obtain ⟨i0, hi, hi0, hi1, hi2⟩ := info_parts infoI64
  have hlen : (toB 1000000 x).length ≤ 4 := toB_len (by omega) 4 (by omega)
  obtain ⟨l, hl⟩ : ∃ l, l = toB 1000000 x := ⟨_, rfl⟩
  rw [← hl] at hlen ⊢
  have HL := Lib.hid hl
  clear hl
  go_enter Tryz.func137, Tryz.ntmps137
  go_wp2
  go_loopw [0, 3] (fun n v wr => ∃ (j m : Nat) (vv : Value), n = .int .i64 (m : Int) ∧ v = vv ∧ m < 9223372036854775808 ∧ Hid (m = x / 1000000 ^ j) ∧ j ≤ l.length ∧ Hid (OwnsN .i64 3 wr vv (l.take j)) ∧ Hid (∀ b, vv.ownBlock = some b → w.heap.size ≤ b) ∧ Ext w wr) (fun n _ _ => (intOf n).toNat)
  case atStart => exact ⟨0, x, _, rfl, rfl, hx, by show _ = _; simp, Nat.zero_le _, OwnsN.nil _ _ _, (fun b hb => by cases hb), Ext.refl _⟩
  case round =>
    obtain ⟨j, m, vv, rfl, hvv, hm, hmx, hj, HO, HN, he⟩ := hrel
    obtain rfl := hvv.symm
    by_cases h0 : m = 0
    · have HF : Hid (l.take j = l) := by
        have h1 : ¬ j < l.length := fun h => by
          rw [HL.out] at h
          exact (len_toB (by omega) j x).1 h (by rw [← hmx.out]; exact h0)
        show _ = _
        exact List.take_of_length_le (by omega)
      subst h0
      clear hmx
      go_wp2
      go_ret
      exact ⟨_, rfl, by rw [HF.out] at HO; exact HO.out, HN.out, he⟩
    · have hjl : j < l.length := by
        rw [HL.out]
        exact (len_toB (by omega) j x).2 (by rw [← hmx.out]; exact h0)
      obtain ⟨r, hr⟩ : ∃ r, r = m % 1000000 := ⟨_, rfl⟩
      obtain ⟨d, hd⟩ : ∃ d, d = m / 1000000 := ⟨_, rfl⟩
      have HR : Hid (l.take (j + 1) = l.take j ++ [r]) := by
        show _ = _
        have e : l.getD j 0 = x / 1000000 ^ j % 1000000 := by rw [HL.out]; exact getD_toB (by omega) j x
        rw [take_last hjl, hr, hmx.out, e]
      have HD : Hid (d = x / 1000000 ^ (j + 1)) := by
        show _ = _
        rw [hd, hmx.out, Nat.div_div_eq_div_mul, Nat.pow_succ]
      have ht1 : (m : Int).tmod 1000000 = (r : Int) := by rw [Int.tmod_eq_emod_of_nonneg (by omega)]; omega
      have ht2 : (m : Int).tdiv 1000000 = (d : Int) := by rw [Int.tdiv_eq_ediv_of_nonneg (by omega)]; omega
      have hw4 : IntKind.i64.wrap (d : Int) = (d : Int) := by rw [IntKind.wrap_i64]; omega
      have hdm : d < m := by omega
      have hm0 : (0 : Int) < (m : Int) := by omega
      have hlt : (l.take j).length ≤ 4 := by rw [List.length_take]; omega
      generalize l.take j = o at HO HR hlt
      clear hr hd hmx h0
      go_wp2_with (at_builtin; refine wpList_append1 _ rfl _ _ 128 rfl 3 i0 (.int .i64 0) 1 8 Tryz.underlying128 hi hi0 hi1 hi2 rfl (by decide) vv o.length (natsV .i64 o) rfl (HO.out.ext ((Ext.refl _).alloc _)) ⟨wr.heap.size, 0, none⟩ 1 1 (by decide) [.int .i64 (r : Int)] rfl rfl (cells_one _ _ _) (by intro u hu; simp at hu; subst hu; rfl) (by unfold maxLen; omega) (by omega) ?_)
      all_goals
        intro v' w5 hown5 hend5
        have OB5 : Hid (∀ b, v'.ownBlock = some b → w.heap.size ≤ b) := hend5.ge (n := w.heap.size) (by have := he.size; simp; omega) HN.out
        have O5 : Hid (OwnsN .i64 3 w5 v' (l.take (j + 1))) := by show OwnsN _ _ _ _ _; rw [HR.out]; exact ownsN_succ hown5
        have B5 : Ext w w5 := (he.trans ((Ext.refl _).alloc _)).trans' (hend5.below (n := w.heap.size) (by have := he.size; simp; omega) HN.out) (Nat.le_refl _)
        clear hown5 hend5 HO
        go_wp2
        refine ⟨⟨j + 1, d, v', by go_num, rfl, by omega, HD, by omega, O5, OB5, B5⟩, by simp [intOf]; omega⟩
end Go.Proofs.YtdejgaiocjfhjaaGreatDoor
namespace Go.Proofs.YtdejgaiocjfhjaaGreatDoor
open Go.RowKit
open Go.Lib (decDigits itoa)
theorem dec_len19 {n : Nat} (h : n ≤ 9223372036854775808) : (decDigits n).length ≤ 19 := (digits_len_le n 19 (by omega)).2 (by omega)
set_option maxHeartbeats 4000000 in
set_option maxRecDepth 100000 in
theorem textI_any (n : Int) (w : World) (h1 : -9223372036854775808 ≤ n) (h2 : n ≤ 9223372036854775807) :
    Calls Tryz.prog 98 #[.int .i64 n] w fun e w' => e = .returned (txt (itoa n)) ∧ Ext w w' := by
  by_cases hn : n < 0
  · have hit : itoa n = 45 :: decDigits n.natAbs := by rw [itoa_eq, if_pos hn]
    obtain ⟨x, hx⟩ : ∃ x : Nat, x = (-(n + 1)).natAbs := ⟨_, rfl⟩
    have hxn : n.natAbs = x + 1 := by omega
    have hw1 : IntKind.i64.wrap (n + 1) = n + 1 := by rw [IntKind.wrap_i64]; omega
    have hw2 : IntKind.i64.wrap (-(n + 1)) = (x : Int) := by rw [IntKind.wrap_i64]; omega
    have hw3 : -(n + 1) = (x : Int) := by omega
    have hw4 : IntKind.i64.wrap (x : Int) = (x : Int) := by rw [IntKind.wrap_i64]; omega
    have hl1 : (toB 1000000 x).length ≤ 100 := Nat.le_trans (toB_len (by omega) 4 (by omega)) (by omega)
    have hl2 : (toB 1000000 (x + 1)).length ≤ 110 := Nat.le_trans (toB_len (by omega) 4 (by omega)) (by omega)
    have HL := Lib.hid (fun W => longR_any x (by omega) W)
    have hdl := dec_len19 (n := x + 1) (by omega)
    have H1 : Hid ([1] = toB 1000000 1) := (toB_one (by omega) (by omega) (by omega)).symm
    have happ := app_txt [45] (decDigits (x + 1))
    have hcat : ¬ 9223372036854775807 < 1 + (decDigits (x + 1)).length := by omega
    have HD := Lib.hid (fun W a c (h : CellsN .i64 W a (toB 1000000 (x + 1))) => digitsR_any (x + 1) _ a c W rfl hl2 h)
    rw [hit, hxn]
    clear hx hxn hit
    generalize decDigits (x + 1) = D at *
    go_enter Tryz.func98, Tryz.ntmps98
    go_wp2_with (go_at_call 137; refine (HL.out _).mono ?_; rintro e w5 ⟨v5, rfl, o5, n5, e5⟩)
    obtain ⟨a5, c5, rfl, oc5, _, _⟩ := o5.reads
    have C5 := Lib.hid (oc5.ext ((Ext.refl w5).alloc (.cells #[.int .i64 (1 : Nat)] 3)))
    clear o5 n5 oc5
    go_wp2_with (go_at_call 136; refine (plusR_any x 1 _ [1] a5 _ c5 1 _ rfl H1.out (by omega) (by simp) C5.out (cells_one' 1 w5)).mono ?_; rintro e w6 ⟨v6, rfl, o6, n6, e6⟩)
    obtain ⟨a6, c6, rfl, oc6, _, _⟩ := o6.reads
    have E6 : Ext w w6 := (e5.trans ((Ext.refl _).alloc _)).trans e6
    have HT := Lib.hid (HD.out w6 a6 c6 oc6)
    clear o6 n6 oc6 e6 e5 C5
    go_wp2_with ((go_at_call 135; (with_reducible refine (HT.out).mono ?_); rintro e w1 ⟨rfl, hE⟩))
    go_ret
    exact ⟨rfl, E6.trans hE⟩
  · have hit : itoa n = decDigits n.natAbs := by rw [itoa_eq, if_neg hn]
    obtain ⟨x, rfl⟩ : ∃ x : Nat, n = (x : Int) := ⟨n.toNat, by omega⟩
    have hl2 : (toB 1000000 x).length ≤ 110 := Nat.le_trans (toB_len (by omega) 4 (by omega)) (by omega)
    have HL := Lib.hid (fun W => longR_any x (by omega) W)
    have HD := Lib.hid (fun W a c (h : CellsN .i64 W a (toB 1000000 x)) => digitsR_any x _ a c W rfl hl2 h)
    rw [hit, Int.natAbs_natCast]
    clear hit
    go_enter Tryz.func98, Tryz.ntmps98
    go_wp2_with (go_at_call 137; refine (HL.out _).mono ?_; rintro e w5 ⟨v5, rfl, o5, n5, e5⟩)
    obtain ⟨a5, c5, rfl, oc5, _, _⟩ := o5.reads
    have HT := Lib.hid (HD.out w5 a5 c5 oc5)
    clear o5 n5 oc5
    go_wp2_with ((go_at_call 135; (with_reducible refine (HT.out).mono ?_); rintro e w1 ⟨rfl, hE⟩))
    go_ret
    exact ⟨rfl, e5.trans hE⟩
set_option maxHeartbeats 4000000 in
theorem wholeR_any (n : Int) (w : World) (h1 : -9223372036854775808 ≤ n) (h2 : n ≤ 9223372036854775807) :
    Calls Tryz.prog 58 #[.int .i64 n] w fun e w' => e = .returned (txt (itoa n)) ∧ Ext w w' := by
  have HT := Lib.hid (fun W => textI_any n W h1 h2)
  go_enter Tryz.func58, Tryz.ntmps58
  go_wp2_with ((go_at_call 98; (with_reducible refine (HT.out _).mono ?_); rintro e w1 ⟨rfl, hE⟩))
  go_ret
  exact ⟨rfl, hE⟩
end Go.Proofs.YtdejgaiocjfhjaaGreatDoor
namespace Go.Proofs.YtdejgaiocjfhjaaGreatDoor
open Go.RowKit
open Go.Lib (decDigits itoa)
theorem op_is {a b c : Txt} {q : Rat} (ha : fracE a = 0) (hb : fracE b = 0) (h : fracE c = 0) (e : fracQ c = q) : ifOk (bothE a b) badR (resQ q) = (c, 0) := by
  unfold ifOk
  rw [if_pos (bothE_zero ha hb)]
  exact made_is h e
end Go.Proofs.YtdejgaiocjfhjaaGreatDoor
namespace Go.Proofs.YtdejgaiocjfhjaaGreatDoor
open Go.RowKit Go.ChangeShapes Go.WideShapes Go.Joins Go.Deep
section
variable {H : Type} {enc : TypeId × Value → H} {w : World} {base : Nat} {spare : Nat → Bool} {held : Bool}
theorem byte_bd {n : Int} (h : (Lit.int .u8 n).wf = true) : ∃ k : Nat, n = (k : Int) ∧ k ≤ 255 := by
  simp only [Lit.wf, Bool.and_eq_true, decide_eq_true_eq] at h
  have h1 : IntKind.u8.min = 0 := by decide
  have h2 : IntKind.u8.max = 255 := by decide
  rw [h1, h2] at h
  exact ⟨n.toNat, by omega, by omega⟩
end
end Go.Proofs.YtdejgaiocjfhjaaGreatDoor
namespace Go.Proofs.YtdejgaiocjfhjaaGreatDoor
open Go.Lib (decDigits itoa)
theorem GoodE.width {K : Nat} {a : Enc} {p q : Rat} (h : GoodE K a p q) (hK : K + K + 1 ≤ 60) : widthE a = (fracT (q - p), 0) ∧ Good (K + K + 1) (fracT (q - p)) (q - p) := by
  obtain ⟨h1, h2⟩ := h.hi.sub h.lo hK
  refine ⟨?_, h2⟩
  unfold widthE
  rw [if_neg (not_not_intro h.ok), h1]
theorem GoodE.within {K L : Nat} {a b : Enc} {p q r s : Rat} (h : GoodE K a p q) (k : GoodE L b r s) (h1 : r ≤ p) (h2 : q ≤ s) : withinE a b = (true, 0) := by
  unfold withinE
  rw [if_neg (not_not_intro (h.both k)), decide_eq_true, decide_eq_true]
  · rfl
  · rw [ord_le', h.hi.val, k.hi.val]; exact h2
  · rw [ord_le', h.lo.val, k.lo.val]; exact h1
def withinQ (p q : Rat) (k : Nat) : Rat := p + (k : Rat) / (255 : Nat) * (q - p)
end Go.Proofs.YtdejgaiocjfhjaaGreatDoor
namespace Go.Proofs.YtdejgaiocjfhjaaGreatDoor
open Go.Lib (decDigits itoa)
theorem within_fit {p q : Rat} (hp : FitB 10 p) (hq : FitB 10 q) {k : Nat} (hk : k ≤ 255) : FitB 23 (withinQ p q k) := by
  have e : withinQ p q k = mkRat (p.num * q.den * 255 + k * (q.num * p.den - p.num * q.den)) (255 * (p.den * q.den)) := by
    rw [Rat.mkRat_eq_div]
    have h1 := num_den p
    have h2 := num_den q
    have hd : (p.den : Rat) ≠ 0 := by exact_mod_cast p.den_nz
    have hd2 : (q.den : Rat) ≠ 0 := by exact_mod_cast q.den_nz
    have e1 : ((p.num * q.den * 255 + k * (q.num * p.den - p.num * q.den) : Int) : Rat) = (p.num : Rat) * (q.den : Rat) * 255 + (k : Rat) * ((q.num : Rat) * (p.den : Rat) - (p.num : Rat) * (q.den : Rat)) := by
      push_cast; rfl
    have e2 : ((255 * (p.den * q.den) : Nat) : Rat) = 255 * ((p.den : Rat) * (q.den : Rat)) := by push_cast; rfl
    rw [e1, e2, h1, h2]
    unfold withinQ
    have e3 : ((255 : Nat) : Rat) = 255 := rfl
    rw [e3]
    grind
  rw [e]
  have h1 := pow_mul_lt hp.1 hq.2
  have h2 := pow_mul_lt hq.1 hp.2
  have h3 := pow_mul_lt hp.2 hq.2
  refine fit_mk ?_ ?_ ?_
  · exact Nat.mul_ne_zero (by omega) (Nat.mul_ne_zero p.den_nz q.den_nz)
  · have a1 := Int.natAbs_add_le (p.num * q.den * 255) (k * (q.num * p.den - p.num * q.den))
    have a2 := Int.natAbs_sub_le (q.num * p.den) (p.num * q.den)
    rw [Int.natAbs_mul (p.num * q.den), Int.natAbs_mul (k : Int)] at a1
    simp only [Int.natAbs_mul, Int.natAbs_natCast] at a1 a2
    have a3 := Nat.mul_le_mul hk a2
    generalize (q.num * p.den - p.num * q.den).natAbs = z at *
    generalize p.num.natAbs * q.den = x at *
    generalize q.num.natAbs * p.den = y at *
    have a4 := Nat.mul_le_mul hk (Nat.le_refl z)
    simp only [show (255 : Int).natAbs = 255 from rfl] at a1
    have e5 : (10 : Nat) ^ (10 + 10) = 100000000000000000000 := by decide
    have e6 : (10 : Nat) ^ 23 = 100000000000000000000000 := by decide
    rw [e5] at *
    rw [e6]
    omega
  · generalize p.den * q.den = x at *
    have e5 : (10 : Nat) ^ (10 + 10) = 100000000000000000000 := by decide
    have e6 : (10 : Nat) ^ 23 = 100000000000000000000000 := by decide
    rw [e5] at *
    rw [e6]
    omega
def withinT (a : Enc) (k : Nat) : Txt := fracT (withinQ (fracQ a.1) (fracQ a.2) k)
theorem ShortR.within {a : Enc} (h : ShortR a) {k : Nat} (hk : k ≤ 255) : Good 23 (withinT a k) (withinQ (fracQ a.1) (fracQ a.2) k) :=
  (Good.of (within_fit h.good.lo.fit h.good.hi.fit hk) (by omega)).2
end Go.Proofs.YtdejgaiocjfhjaaGreatDoor
namespace Go.Proofs.YtdejgaiocjfhjaaGreatDoor
open Go.RowKit
open Go.Lib (decDigits itoa)
theorem ex_third : addS [49, 47, 49, 50] [49, 47, 52] = ([49, 47, 51], 0) := op_is (by decide) (by decide) (by decide) (by decide +kernel)
set_option maxHeartbeats 2000000 in
theorem playF_any (w : World) (hG : Glob w) : Calls Tryz.prog 56 #[] w fun e w' => e = .returned (.bool true) ∧ Ext w w' := by
  have H := Lib.hid (add_any [49, 47, 49, 50] [49, 47, 52] w hG (by decide) (by decide))
  rw [ex_third] at H
  unfold ResP at H
  go_enter Tryz.func56, Tryz.ntmps56
  go_wp2_with fail
  refine H.out.mono ?_
  rintro e w1 ⟨rfl, hE⟩
  go_wp2_with fail
  go_ret
  exact ⟨rfl, hE⟩
end Go.Proofs.YtdejgaiocjfhjaaGreatDoor
namespace Go.Proofs.YtdejgaiocjfhjaaGreatDoor
open Go.RowKit
open Go.Lib (decDigits itoa)
def piE : Enc := ([50, 50, 51, 47, 55, 49], [50, 50, 47, 55])
theorem pi_good : GoodE 3 piE (mkRat 223 71) (mkRat 22 7) := by
  refine ⟨⟨by decide, by decide +kernel, ?_⟩, ⟨by decide, by decide +kernel, ?_⟩, by decide +kernel⟩
  · exact ⟨by decide +kernel, by decide +kernel⟩
  · exact ⟨by decide +kernel, by decide +kernel⟩
def numE (n : Nat) : Enc := (itoa (n : Int), itoa (n : Int))
theorem num_good {n : Nat} (h : n < 100000) : GoodE 5 (numE n) ((n : Int) : Rat) ((n : Int) : Rat) := by
  have g := int_good (n := (n : Int)) (K := 5) (by omega) (by omega) (by simpa using h)
  exact ⟨g, g, Rat.le_refl⟩
theorem circ_mul {a : Enc} {p q : Rat} (h : GoodE 3 a p q) {n : Nat} (hn : n < 100000) : mulE a (numE n) = (encT (p * ((n : Int) : Rat)) (q * ((n : Int) : Rat)), 0) ∧ GoodE 8 (encT (p * ((n : Int) : Rat)) (q * ((n : Int) : Rat))) (p * ((n : Int) : Rat)) (q * ((n : Int) : Rat)) := by
  have g := num_good hn
  obtain ⟨h1, h2⟩ := h.mul g (by omega)
  have h0 : (0 : Rat) ≤ ((n : Int) : Rat) := by exact_mod_cast Int.natCast_nonneg n
  have hle := mul_le h.le h0
  have e1 : prodLo a (numE n) = p * ((n : Int) : Rat) := by
    unfold prodLo
    rw [h.lo.val, h.hi.val, g.lo.val, g.hi.val]
    exact lo4_is Rat.le_refl Rat.le_refl hle hle (.inl rfl)
  have e2 : prodHi a (numE n) = q * ((n : Int) : Rat) := by
    unfold prodHi
    rw [h.lo.val, h.hi.val, g.lo.val, g.hi.val]
    exact hi4_is hle hle Rat.le_refl Rat.le_refl (.inr (.inr (.inl rfl)))
  rw [e1, e2] at h1 h2
  exact ⟨h1, h2⟩
structure CircD (i o n : Nat) (x1 x2 y1 y2 z1 z2 r1 r2 wt vt : Txt) : Prop where
  x : mulE piE (numE o) = ((x1, x2), 0)
  y : mulE piE (numE i) = ((y1, y2), 0)
  z : subE (x1, x2) (y1, y2) = ((z1, z2), 0)
  r : mulE piE (numE n) = ((r1, r2), 0)
  c : withinE (r1, r2) (z1, z2) = (true, 0)
  w : widthE piE = (wt, 0)
  v : widthE (r1, r2) = (vt, 0)
  k : encE (r1, r2) = 0
  f : fracE wt = 0
  t : mulS wt (itoa (n : Int)) = (vt, 0)
  lx : LenE (x1, x2)
  ly : LenE (y1, y2)
  lz : LenE (z1, z2)
  lr : LenE (r1, r2)
  lw : wt.length ≤ 400
theorem circ_data {i o n : Nat} (hi : i < 100000) (ho : o < 100000) (hn : i + n = o) : ∃ x1 x2 y1 y2 z1 z2 r1 r2 wt vt, CircD i o n x1 x2 y1 y2 z1 z2 r1 r2 wt vt := by
  obtain ⟨a1, a2⟩ := circ_mul pi_good ho
  obtain ⟨b1, b2⟩ := circ_mul pi_good hi
  obtain ⟨c1, c2⟩ := circ_mul pi_good (n := n) (by omega)
  obtain ⟨d1, d2⟩ := a2.sub b2 (by omega)
  obtain ⟨e1, e2⟩ := pi_good.width (by omega)
  obtain ⟨f1, f2⟩ := c2.width (by omega)
  have gn := (num_good (n := n) (by omega)).lo
  obtain ⟨t1, t2⟩ := e2.mul gn (by omega)
  have hq : ((o : Int) : Rat) = ((i : Int) : Rat) + ((n : Int) : Rat) := by
    rw [← hn]; push_cast; rfl
  have h0 : (0 : Rat) ≤ ((i : Int) : Rat) := by exact_mod_cast Int.natCast_nonneg i
  have hl := mul_le pi_good.le h0
  refine ⟨_, _, _, _, _, _, _, _, _, _, a1, b1, d1, c1, c2.within d2 ?_ ?_, e1, f1, c2.ok, e2.ok, ?_, a2.len, b2.len, d2.len, c2.len, e2.len⟩
  · rw [hq]; grind
  · rw [hq]; grind
  · show mulS _ (numE n).1 = _
    rw [t1]
    congr 2
    grind
end Go.Proofs.YtdejgaiocjfhjaaGreatDoor
namespace Go.Proofs.YtdejgaiocjfhjaaGreatDoor
open Go.RowKit
open Go.Lib (decDigits itoa)
theorem rTimes_any (a b : Txt) (w : World) (ha : a.length ≤ 400) (hb : b.length ≤ 400) : Calls Tryz.prog 61 #[txt a, txt b] w fun e w' => e = .returned (txt (mulS a b).1) ∧ Ext w w' := by
  have H := Lib.hid (rMul_any a b w ha hb)
  generalize mulS a b = r at *
  obtain ⟨r, re⟩ := r
  unfold ResP at H
  go_enter Tryz.func61, Tryz.ntmps61
  go_wp2_with (go_at_call 75; refine H.out.mono ?_; rintro e w1 ⟨rfl, hE⟩)
  go_ret
  exact ⟨rfl, hE⟩
end Go.Proofs.YtdejgaiocjfhjaaGreatDoor
namespace Go.Proofs.YtdejgaiocjfhjaaGreatDoor
open Go.RowKit
open Go.Lib (decDigits itoa)
set_option maxHeartbeats 2000000 in
theorem circOf_any (n z : Nat) (w : World) (hz : n * n = z) (hb : z < 100000) : Calls Tryz.prog 57 #[.int .i64 (n : Int)] w fun e w' => e = .returned (encV (numE z)) ∧ Ext w w' := by
  have H := Lib.hid (fun W => wholeR_any (z : Int) W (by omega) (by omega))
  have hm : (n : Int) * (n : Int) = (z : Int) := by rw [← hz]; push_cast; rfl
  have hw : IntKind.i64.wrap (z : Int) = (z : Int) := by rw [IntKind.wrap_i64]; omega
  unfold numE
  dsimp only [encV]
  generalize itoa (z : Int) = t at *
  have X := encAt_new w w.heap.size rfl [] [] 24
  have E : Ext w (w.alloc (.cells #[.string ⟨#[]⟩, .string ⟨#[]⟩] 24)) := extA
  go_enter Tryz.func57, Tryz.ntmps57
  go_wp2_with fail
  refine (H.out _).mono ?_
  rintro e w1 ⟨rfl, hE⟩
  replace X := X.ext hE
  replace E := E.trans hE
  clear hE
  go_wp2_with fail
  refine (H.out _).mono ?_
  rintro e w2 ⟨rfl, hE⟩
  replace X := X.ext hE
  replace E := E.trans hE
  clear hE
  obtain ⟨x0, x1, f0, f1⟩ := X
  go_wp2_with fail
  refine bodyPost_ret (v := .agg #[txt t, txt t]) (by rw [results_cell1 rfl]; go_simp) rfl ?_
  exact ⟨rfl, extA⟩
set_option maxHeartbeats 16000000 in
set_option maxRecDepth 100000 in
theorem lawCircles_any (m n : Nat) (w : World) (hG : Glob w) (hm : m ≤ 255) (hn : n ≤ 255) : Calls Tryz.prog 12 #[.int .u8 (m : Int), .int .u8 (n : Int)] w (TrueP w) := by
  have HG := Lib.hid hG
  clear hG
  unfold TrueP
  obtain ⟨i, hi⟩ : ∃ i, i = min m n := ⟨_, rfl⟩
  obtain ⟨u, hu⟩ : ∃ u, u = max m n := ⟨_, rfl⟩
  have hmin : min (m : Int) (n : Int) = (i : Int) := by omega
  have hmax : max (m : Int) (n : Int) = (u : Int) := by omega
  have hiu : i ≤ u := by omega
  have hub : u ≤ 255 := by omega
  clear hi hu
  obtain ⟨i2, hi2⟩ : ∃ i2, i2 = i * i := ⟨_, rfl⟩
  obtain ⟨u2, hu2⟩ : ∃ u2, u2 = u * u := ⟨_, rfl⟩
  have b1 : i2 ≤ 255 * 255 := by rw [hi2]; exact Nat.mul_le_mul (by omega) (by omega)
  have b2 : u2 ≤ 255 * 255 := by rw [hu2]; exact Nat.mul_le_mul (by omega) (by omega)
  have b3 : i2 ≤ u2 := by rw [hi2, hu2]; exact Nat.mul_le_mul hiu hiu
  obtain ⟨d, hd⟩ : ∃ d, d = u2 - i2 := ⟨_, rfl⟩
  have e1 : (i : Int) * (i : Int) = (i2 : Int) := by rw [hi2]; push_cast; rfl
  have e2 : (u : Int) * (u : Int) = (u2 : Int) := by rw [hu2]; push_cast; rfl
  have e3 : (u2 : Int) - (i2 : Int) = (d : Int) := by omega
  obtain ⟨x1, x2, y1, y2, z1, z2, r1, r2, wt, vt, D⟩ := circ_data (i := i2) (o := u2) (n := d) (by omega) (by omega) (by omega)
  have W1 := Lib.hid (fun W => circOf_any u u2 W hu2.symm (by omega))
  have W2 := Lib.hid (fun W => circOf_any i i2 W hi2.symm (by omega))
  have WH := Lib.hid (fun W => wholeR_any (d : Int) W (by omega) (by omega))
  have HPI := Lib.hid (fun W => ePi_any W)
  have lpi : LenE piE := ⟨by decide, by decide⟩
  have lnu : ∀ k : Nat, k < 100000 → LenE (numE k) := fun k hk => (num_good hk).len
  have X0 : Hid (∀ W, Ext w W → Calls Tryz.prog 24 #[encV piE, encV (numE u2)] W (EncP ((x1, x2), 0) W)) := fun W g => by rw [← D.x]; exact eMul_any _ _ W (HG.out.ext g) lpi (lnu _ (by omega))
  have X1 : Hid (∀ W, Ext w W → Calls Tryz.prog 24 #[encV piE, encV (numE i2)] W (EncP ((y1, y2), 0) W)) := fun W g => by rw [← D.y]; exact eMul_any _ _ W (HG.out.ext g) lpi (lnu _ (by omega))
  have X2 : Hid (∀ W, Ext w W → Calls Tryz.prog 22 #[encV (x1, x2), encV (y1, y2)] W (EncP ((z1, z2), 0) W)) := fun W g => by rw [← D.z]; exact eSub_any _ _ W (HG.out.ext g) D.lx D.ly
  have X3 : Hid (∀ W, Ext w W → Calls Tryz.prog 24 #[encV piE, encV (numE d)] W (EncP ((r1, r2), 0) W)) := fun W g => by rw [← D.r]; exact eMul_any _ _ W (HG.out.ext g) lpi (lnu _ (by omega))
  have X4 : Hid (∀ W, Ext w W → Calls Tryz.prog 32 #[encV (r1, r2), encV (z1, z2)] W (BoolP true 0 W)) := fun W g => by have q := eWithin_any (r1, r2) (z1, z2) W (HG.out.ext g) D.lr D.lz; rw [D.c] at q; exact q
  have X5 : Hid (∀ W, Ext w W → Calls Tryz.prog 18 #[encV piE] W (ResP (wt, 0) W)) := fun W g => by rw [← D.w]; exact eWidth_any _ W (HG.out.ext g) lpi
  have X6 : Hid (∀ W, Ext w W → Calls Tryz.prog 18 #[encV (r1, r2)] W (ResP (vt, 0) W)) := fun W g => by rw [← D.v]; exact eWidth_any _ W (HG.out.ext g) D.lr
  have X7 : Hid (∀ W, Calls Tryz.prog 45 #[encV (r1, r2)] W fun e w' => e = .returned (.int .i64 (0 : Nat)) ∧ Ext W w') := fun W => by have q := rCheck2_any (r1, r2) W D.lr; rw [D.k] at q; exact q
  have X8 : Hid (∀ W, Calls Tryz.prog 60 #[txt wt] W fun e w' => e = .returned (.int .i64 (0 : Nat)) ∧ Ext W w') := fun W => by have q := checkR_any wt W D.lw; rw [D.f] at q; exact q
  have X9 : Hid (∀ W, Calls Tryz.prog 61 #[txt wt, txt (itoa (d : Int))] W fun e w' => e = .returned (txt vt) ∧ Ext W w') := fun W => by have q := rTimes_any wt (itoa (d : Int)) W D.lw (lnu d (by omega)).1; rw [D.t] at q; exact q
  have HP := Lib.hid (fun W (h : Ext w W) => playF_any W (HG.out.ext h))
  unfold numE at X0 X1 X3 W1 W2
  generalize itoa (d : Int) = td at *
  generalize itoa (u2 : Int) = tu at *
  generalize itoa (i2 : Int) = ti at *
  unfold EncP at X0 X1 X2 X3
  unfold BoolP at X4
  unfold ResP at X5 X6
  unfold piE at X0 X1 X3 X5
  dsimp only [encV] at HPI W1 W2 X0 X1 X2 X3 X4 X5 X6 X7
  have v1 : IntKind.i64.wrap (i : Int) = (i : Int) := by rw [IntKind.wrap_i64]; omega
  have v2 : IntKind.i64.wrap (u : Int) = (u : Int) := by rw [IntKind.wrap_i64]; omega
  have v3 : IntKind.i64.wrap (i2 : Int) = (i2 : Int) := by rw [IntKind.wrap_i64]; omega
  have v4 : IntKind.i64.wrap (u2 : Int) = (u2 : Int) := by rw [IntKind.wrap_i64]; omega
  have v5 : IntKind.i64.wrap (d : Int) = (d : Int) := by rw [IntKind.wrap_i64]; omega
  have hw0 : IntKind.i64.wrap 0 = 0 := by decide
  clear D lpi lnu hi2 hu2 hd b1 b2 b3 hiu hub HG
  have E := Ext.refl w
  go_enter Tryz.func12, Tryz.ntmps12
  go_wp2_with fail
  refine (HPI.out _).mono ?_
  rintro e w1 ⟨rfl, hE⟩
  replace E := E.trans hE
  clear hE
  go_wp2_with fail
  refine (W1.out _).mono ?_
  clear W1
  rintro e w2 ⟨rfl, hE⟩
  replace E := E.trans hE
  clear hE
  go_wp2_with fail
  refine (X0.out _ E).mono ?_
  clear X0
  rintro e w3 ⟨rfl, hE⟩
  replace E := E.trans hE
  clear hE
  have X : EncAt (w3.heap.size) (w3.alloc (.cells #[txt x1, txt x2] 24)) x1 x2 := ⟨by go_simp, by go_simp, by go_simp, by go_simp⟩
  have EA : Ext w3 (w3.alloc (.cells #[txt x1, txt x2] 24)) := extA
  replace E := E.trans EA
  clear EA
  go_wp2_with fail
  obtain ⟨bX, hbX⟩ : ∃ b, b = w3.heap.size := ⟨_, rfl⟩
  rw [← hbX] at X  ⊢
  generalize (w3.alloc (.cells #[txt x1, txt x2] 24)) = w4 at X E ⊢
  clear hbX
  refine (HPI.out _).mono ?_
  rintro e w5 ⟨rfl, hE⟩
  replace E := E.trans hE
  replace X := X.ext hE
  clear hE
  have X' := X
  obtain ⟨X0, X1, X2, X3⟩ := X
  have zX := cell_lt X0
  dsimp only at zX
  go_wp2_with fail
  clear X0 X1 X2 X3 zX
  have X := X'
  clear X'
  refine (W2.out _).mono ?_
  clear W2
  rintro e w6 ⟨rfl, hE⟩
  replace E := E.trans hE
  replace X := X.ext hE
  clear hE
  have X' := X
  obtain ⟨X0, X1, X2, X3⟩ := X
  have zX := cell_lt X0
  dsimp only at zX
  go_wp2_with fail
  clear X0 X1 X2 X3 zX
  have X := X'
  clear X'
  refine (X1.out _ E).mono ?_
  clear X1
  rintro e w7 ⟨rfl, hE⟩
  replace E := E.trans hE
  replace X := X.ext hE
  clear hE
  have X' := X
  obtain ⟨X0, X1, X2, X3⟩ := X
  have zX := cell_lt X0
  dsimp only at zX
  have Y : EncAt (w7.heap.size) (w7.alloc (.cells #[txt y1, txt y2] 24)) y1 y2 := ⟨by go_simp, by go_simp, by go_simp, by go_simp⟩
  have EA : Ext w7 (w7.alloc (.cells #[txt y1, txt y2] 24)) := extA
  replace X' := X'.ext EA
  replace E := E.trans EA
  clear EA
  go_wp2_with fail
  clear X0 X1 X2 X3 zX
  have X := X'
  clear X'
  obtain ⟨bY, hbY⟩ : ∃ b, b = w7.heap.size := ⟨_, rfl⟩
  rw [← hbY] at Y  ⊢
  generalize (w7.alloc (.cells #[txt y1, txt y2] 24)) = w8 at X Y E ⊢
  clear hbY
  refine (X2.out _ E).mono ?_
  clear X2
  rintro e w9 ⟨rfl, hE⟩
  replace E := E.trans hE
  replace X := X.ext hE
  replace Y := Y.ext hE
  clear hE
  have X' := X
  have Y' := Y
  obtain ⟨X0, X1, X2, X3⟩ := X
  have zX := cell_lt X0
  dsimp only at zX
  obtain ⟨Y0, Y1, Y2, Y3⟩ := Y
  have zY := cell_lt Y0
  dsimp only at zY
  have Z : EncAt (w9.heap.size) (w9.alloc (.cells #[txt z1, txt z2] 24)) z1 z2 := ⟨by go_simp, by go_simp, by go_simp, by go_simp⟩
  have EA : Ext w9 (w9.alloc (.cells #[txt z1, txt z2] 24)) := extA
  replace X' := X'.ext EA
  replace Y' := Y'.ext EA
  replace E := E.trans EA
  clear EA
  go_wp2_with fail
  clear X0 X1 X2 X3 zX Y0 Y1 Y2 Y3 zY
  have X := X'
  clear X'
  have Y := Y'
  clear Y'
  obtain ⟨bZ, hbZ⟩ : ∃ b, b = w9.heap.size := ⟨_, rfl⟩
  rw [← hbZ] at Z  ⊢
  generalize (w9.alloc (.cells #[txt z1, txt z2] 24)) = w10 at X Y Z E ⊢
  clear hbZ
  refine (HPI.out _).mono ?_
  rintro e w11 ⟨rfl, hE⟩
  replace E := E.trans hE
  replace X := X.ext hE
  replace Y := Y.ext hE
  replace Z := Z.ext hE
  clear hE
  have X' := X
  have Y' := Y
  have Z' := Z
  obtain ⟨X0, X1, X2, X3⟩ := X
  have zX := cell_lt X0
  dsimp only at zX
  obtain ⟨Y0, Y1, Y2, Y3⟩ := Y
  have zY := cell_lt Y0
  dsimp only at zY
  obtain ⟨Z0, Z1, Z2, Z3⟩ := Z
  have zZ := cell_lt Z0
  dsimp only at zZ
  go_wp2_with fail
  clear X0 X1 X2 X3 zX Y0 Y1 Y2 Y3 zY Z0 Z1 Z2 Z3 zZ
  have X := X'
  clear X'
  have Y := Y'
  clear Y'
  have Z := Z'
  clear Z'
  refine (WH.out _).mono ?_
  rintro e w12 ⟨rfl, hE⟩
  replace E := E.trans hE
  replace X := X.ext hE
  replace Y := Y.ext hE
  replace Z := Z.ext hE
  clear hE
  have X' := X
  have Y' := Y
  have Z' := Z
  obtain ⟨X0, X1, X2, X3⟩ := X
  have zX := cell_lt X0
  dsimp only at zX
  obtain ⟨Y0, Y1, Y2, Y3⟩ := Y
  have zY := cell_lt Y0
  dsimp only at zY
  obtain ⟨Z0, Z1, Z2, Z3⟩ := Z
  have zZ := cell_lt Z0
  dsimp only at zZ
  go_wp2_with fail
  clear X0 X1 X2 X3 zX Y0 Y1 Y2 Y3 zY Z0 Z1 Z2 Z3 zZ
  have X := X'
  clear X'
  have Y := Y'
  clear Y'
  have Z := Z'
  clear Z'
  refine (WH.out _).mono ?_
  rintro e w13 ⟨rfl, hE⟩
  replace E := E.trans hE
  replace X := X.ext hE
  replace Y := Y.ext hE
  replace Z := Z.ext hE
  clear hE
  have X' := X
  have Y' := Y
  have Z' := Z
  obtain ⟨X0, X1, X2, X3⟩ := X
  have zX := cell_lt X0
  dsimp only at zX
  obtain ⟨Y0, Y1, Y2, Y3⟩ := Y
  have zY := cell_lt Y0
  dsimp only at zY
  obtain ⟨Z0, Z1, Z2, Z3⟩ := Z
  have zZ := cell_lt Z0
  dsimp only at zZ
  go_wp2_with fail
  clear X0 X1 X2 X3 zX Y0 Y1 Y2 Y3 zY Z0 Z1 Z2 Z3 zZ
  have X := X'
  clear X'
  have Y := Y'
  clear Y'
  have Z := Z'
  clear Z'
  refine (X3.out _ E).mono ?_
  clear X3
  rintro e w14 ⟨rfl, hE⟩
  replace E := E.trans hE
  replace X := X.ext hE
  replace Y := Y.ext hE
  replace Z := Z.ext hE
  clear hE
  have X' := X
  have Y' := Y
  have Z' := Z
  obtain ⟨X0, X1, X2, X3⟩ := X
  have zX := cell_lt X0
  dsimp only at zX
  obtain ⟨Y0, Y1, Y2, Y3⟩ := Y
  have zY := cell_lt Y0
  dsimp only at zY
  obtain ⟨Z0, Z1, Z2, Z3⟩ := Z
  have zZ := cell_lt Z0
  dsimp only at zZ
  have R : EncAt (w14.heap.size) (w14.alloc (.cells #[txt r1, txt r2] 24)) r1 r2 := ⟨by go_simp, by go_simp, by go_simp, by go_simp⟩
  have EA : Ext w14 (w14.alloc (.cells #[txt r1, txt r2] 24)) := extA
  replace X' := X'.ext EA
  replace Y' := Y'.ext EA
  replace Z' := Z'.ext EA
  replace E := E.trans EA
  clear EA
  go_wp2_with fail
  clear X0 X1 X2 X3 zX Y0 Y1 Y2 Y3 zY Z0 Z1 Z2 Z3 zZ
  have X := X'
  clear X'
  have Y := Y'
  clear Y'
  have Z := Z'
  clear Z'
  obtain ⟨bR, hbR⟩ : ∃ b, b = w14.heap.size := ⟨_, rfl⟩
  rw [← hbR] at R  ⊢
  generalize (w14.alloc (.cells #[txt r1, txt r2] 24)) = w15 at X Y Z R E ⊢
  clear hbR
  refine (X4.out _ E).mono ?_
  clear X4
  rintro e w16 ⟨rfl, hE⟩
  replace E := E.trans hE
  replace X := X.ext hE
  replace Y := Y.ext hE
  replace Z := Z.ext hE
  replace R := R.ext hE
  clear hE
  have X' := X
  have Y' := Y
  have Z' := Z
  have R' := R
  obtain ⟨X0, X1, X2, X3⟩ := X
  have zX := cell_lt X0
  dsimp only at zX
  obtain ⟨Y0, Y1, Y2, Y3⟩ := Y
  have zY := cell_lt Y0
  dsimp only at zY
  obtain ⟨Z0, Z1, Z2, Z3⟩ := Z
  have zZ := cell_lt Z0
  dsimp only at zZ
  obtain ⟨R0, R1, R2, R3⟩ := R
  have zR := cell_lt R0
  dsimp only at zR
  go_wp2_with fail
  clear X0 X1 X2 X3 zX Y0 Y1 Y2 Y3 zY Z0 Z1 Z2 Z3 zZ R0 R1 R2 R3 zR
  have X := X'
  clear X'
  have Y := Y'
  clear Y'
  have Z := Z'
  clear Z'
  have R := R'
  clear R'
  refine (HPI.out _).mono ?_
  clear HPI
  rintro e w17 ⟨rfl, hE⟩
  replace E := E.trans hE
  replace X := X.ext hE
  replace Y := Y.ext hE
  replace Z := Z.ext hE
  replace R := R.ext hE
  clear hE
  have X' := X
  have Y' := Y
  have Z' := Z
  have R' := R
  obtain ⟨X0, X1, X2, X3⟩ := X
  have zX := cell_lt X0
  dsimp only at zX
  obtain ⟨Y0, Y1, Y2, Y3⟩ := Y
  have zY := cell_lt Y0
  dsimp only at zY
  obtain ⟨Z0, Z1, Z2, Z3⟩ := Z
  have zZ := cell_lt Z0
  dsimp only at zZ
  obtain ⟨R0, R1, R2, R3⟩ := R
  have zR := cell_lt R0
  dsimp only at zR
  go_wp2_with fail
  clear X0 X1 X2 X3 zX Y0 Y1 Y2 Y3 zY Z0 Z1 Z2 Z3 zZ R0 R1 R2 R3 zR
  have X := X'
  clear X'
  have Y := Y'
  clear Y'
  have Z := Z'
  clear Z'
  have R := R'
  clear R'
  refine (X5.out _ E).mono ?_
  clear X5
  rintro e w18 ⟨rfl, hE⟩
  replace E := E.trans hE
  replace X := X.ext hE
  replace Y := Y.ext hE
  replace Z := Z.ext hE
  replace R := R.ext hE
  clear hE
  have X' := X
  have Y' := Y
  have Z' := Z
  have R' := R
  obtain ⟨X0, X1, X2, X3⟩ := X
  have zX := cell_lt X0
  dsimp only at zX
  obtain ⟨Y0, Y1, Y2, Y3⟩ := Y
  have zY := cell_lt Y0
  dsimp only at zY
  obtain ⟨Z0, Z1, Z2, Z3⟩ := Z
  have zZ := cell_lt Z0
  dsimp only at zZ
  obtain ⟨R0, R1, R2, R3⟩ := R
  have zR := cell_lt R0
  dsimp only at zR
  go_wp2_with fail
  clear X0 X1 X2 X3 zX Y0 Y1 Y2 Y3 zY Z0 Z1 Z2 Z3 zZ R0 R1 R2 R3 zR
  have X := X'
  clear X'
  have Y := Y'
  clear Y'
  have Z := Z'
  clear Z'
  have R := R'
  clear R'
  refine (X6.out _ E).mono ?_
  clear X6
  rintro e w19 ⟨rfl, hE⟩
  replace E := E.trans hE
  replace X := X.ext hE
  replace Y := Y.ext hE
  replace Z := Z.ext hE
  replace R := R.ext hE
  clear hE
  have X' := X
  have Y' := Y
  have Z' := Z
  have R' := R
  obtain ⟨X0, X1, X2, X3⟩ := X
  have zX := cell_lt X0
  dsimp only at zX
  obtain ⟨Y0, Y1, Y2, Y3⟩ := Y
  have zY := cell_lt Y0
  dsimp only at zY
  obtain ⟨Z0, Z1, Z2, Z3⟩ := Z
  have zZ := cell_lt Z0
  dsimp only at zZ
  obtain ⟨R0, R1, R2, R3⟩ := R
  have zR := cell_lt R0
  dsimp only at zR
  go_wp2_with fail
  clear X0 X1 X2 X3 zX Y0 Y1 Y2 Y3 zY Z0 Z1 Z2 Z3 zZ R0 R1 R2 R3 zR
  have X := X'
  clear X'
  have Y := Y'
  clear Y'
  have Z := Z'
  clear Z'
  have R := R'
  clear R'
  refine (X7.out _).mono ?_
  clear X7
  rintro e w20 ⟨rfl, hE⟩
  replace E := E.trans hE
  replace X := X.ext hE
  replace Y := Y.ext hE
  replace Z := Z.ext hE
  replace R := R.ext hE
  clear hE
  have X' := X
  have Y' := Y
  have Z' := Z
  have R' := R
  obtain ⟨X0, X1, X2, X3⟩ := X
  have zX := cell_lt X0
  dsimp only at zX
  obtain ⟨Y0, Y1, Y2, Y3⟩ := Y
  have zY := cell_lt Y0
  dsimp only at zY
  obtain ⟨Z0, Z1, Z2, Z3⟩ := Z
  have zZ := cell_lt Z0
  dsimp only at zZ
  obtain ⟨R0, R1, R2, R3⟩ := R
  have zR := cell_lt R0
  dsimp only at zR
  go_wp2_with fail
  clear X0 X1 X2 X3 zX Y0 Y1 Y2 Y3 zY Z0 Z1 Z2 Z3 zZ R0 R1 R2 R3 zR
  have X := X'
  clear X'
  have Y := Y'
  clear Y'
  have Z := Z'
  clear Z'
  have R := R'
  clear R'
  refine (X8.out _).mono ?_
  clear X8
  rintro e w21 ⟨rfl, hE⟩
  replace E := E.trans hE
  replace X := X.ext hE
  replace Y := Y.ext hE
  replace Z := Z.ext hE
  replace R := R.ext hE
  clear hE
  have X' := X
  have Y' := Y
  have Z' := Z
  have R' := R
  obtain ⟨X0, X1, X2, X3⟩ := X
  have zX := cell_lt X0
  dsimp only at zX
  obtain ⟨Y0, Y1, Y2, Y3⟩ := Y
  have zY := cell_lt Y0
  dsimp only at zY
  obtain ⟨Z0, Z1, Z2, Z3⟩ := Z
  have zZ := cell_lt Z0
  dsimp only at zZ
  obtain ⟨R0, R1, R2, R3⟩ := R
  have zR := cell_lt R0
  dsimp only at zR
  go_wp2_with fail
  clear X0 X1 X2 X3 zX Y0 Y1 Y2 Y3 zY Z0 Z1 Z2 Z3 zZ R0 R1 R2 R3 zR
  have X := X'
  clear X'
  have Y := Y'
  clear Y'
  have Z := Z'
  clear Z'
  have R := R'
  clear R'
  refine (WH.out _).mono ?_
  clear WH
  rintro e w22 ⟨rfl, hE⟩
  replace E := E.trans hE
  replace X := X.ext hE
  replace Y := Y.ext hE
  replace Z := Z.ext hE
  replace R := R.ext hE
  clear hE
  have X' := X
  have Y' := Y
  have Z' := Z
  have R' := R
  obtain ⟨X0, X1, X2, X3⟩ := X
  have zX := cell_lt X0
  dsimp only at zX
  obtain ⟨Y0, Y1, Y2, Y3⟩ := Y
  have zY := cell_lt Y0
  dsimp only at zY
  obtain ⟨Z0, Z1, Z2, Z3⟩ := Z
  have zZ := cell_lt Z0
  dsimp only at zZ
  obtain ⟨R0, R1, R2, R3⟩ := R
  have zR := cell_lt R0
  dsimp only at zR
  go_wp2_with fail
  clear X0 X1 X2 X3 zX Y0 Y1 Y2 Y3 zY Z0 Z1 Z2 Z3 zZ R0 R1 R2 R3 zR
  have X := X'
  clear X'
  have Y := Y'
  clear Y'
  have Z := Z'
  clear Z'
  have R := R'
  clear R'
  refine (X9.out _).mono ?_
  clear X9
  rintro e w23 ⟨rfl, hE⟩
  replace E := E.trans hE
  replace X := X.ext hE
  replace Y := Y.ext hE
  replace Z := Z.ext hE
  replace R := R.ext hE
  clear hE
  have X' := X
  have Y' := Y
  have Z' := Z
  have R' := R
  obtain ⟨X0, X1, X2, X3⟩ := X
  have zX := cell_lt X0
  dsimp only at zX
  obtain ⟨Y0, Y1, Y2, Y3⟩ := Y
  have zY := cell_lt Y0
  dsimp only at zY
  obtain ⟨Z0, Z1, Z2, Z3⟩ := Z
  have zZ := cell_lt Z0
  dsimp only at zZ
  obtain ⟨R0, R1, R2, R3⟩ := R
  have zR := cell_lt R0
  dsimp only at zR
  go_wp2_with fail
  clear X0 X1 X2 X3 zX Y0 Y1 Y2 Y3 zY Z0 Z1 Z2 Z3 zZ R0 R1 R2 R3 zR
  have X := X'
  clear X'
  have Y := Y'
  clear Y'
  have Z := Z'
  clear Z'
  have R := R'
  clear R'
  refine (HP.out _ E).mono ?_
  rintro e w24 ⟨rfl, hE⟩
  replace E := E.trans hE
  replace X := X.ext hE
  replace Y := Y.ext hE
  replace Z := Z.ext hE
  replace R := R.ext hE
  clear hE
  go_wp2_with fail
  go_ret
  exact ⟨rfl, E⟩
end Go.Proofs.YtdejgaiocjfhjaaGreatDoor
