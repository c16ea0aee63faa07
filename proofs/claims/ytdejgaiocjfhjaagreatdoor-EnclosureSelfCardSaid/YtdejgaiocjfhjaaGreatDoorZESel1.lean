/- Steps of the proof: FApi, FRefS, ELaw3, ELaw4, ELaw5, ELAwk, ELRig, ELMeet. No conditions. -/
import Derived.Test.YtdejgaiocjfhjaaGreatDoorZEB1
import Derived.Test.YtdejgaiocjfhjaaGreatDoorZEB2
import Derived.Test.YtdejgaiocjfhjaaGreatDoorZEB3
import Derived.Test.YtdejgaiocjfhjaaGreatDoorZEB4
import Derived.Test.YtdejgaiocjfhjaaGreatDoorZEB5
import Derived.Test.YtdejgaiocjfhjaaGreatDoorZEB6
import Derived.Test.YtdejgaiocjfhjaaGreatDoorZEB7
import Derived.Test.YtdejgaiocjfhjaaGreatDoorZEB8
import Derived.Test.YtdejgaiocjfhjaaGreatDoorZEB9
import Derived.Test.YtdejgaiocjfhjaaGreatDoorZEB10
import Derived.Test.YtdejgaiocjfhjaaGreatDoorZEB11
import Derived.Test.YtdejgaiocjfhjaaGreatDoorZEB12
namespace Go.Proofs.YtdejgaiocjfhjaaGreatDoor
open Go.RowKit
open Go.Lib (decDigits itoa)
set_option maxHeartbeats 4000000 in
set_option maxRecDepth 100000 in
theorem signF_any (a : Txt) (w : World) (hG : Glob w) (ha : a.length ≤ 400) :
    Calls Tryz.prog 51 #[txt a] w (IntP (signS a).1 (signS a).2 w) := by
  have HPA := Lib.hid (parsed_any a w hG ha)
  clear hG
  unfold IntP
  go_enter Tryz.func51, Tryz.ntmps51
  go_wp2_with fail
  refine HPA.out.mono ?_
  rintro e w1 ⟨v1, rfl, ⟨s1, ta, tn, tc, ba, bn, bc, rfl⟩, hn1, hE⟩
  have HN1 := Lib.hid hn1
  clear hn1 HPA
  by_cases ea : fracE a = 0
  rotate_left
  · have HR : Hid (signS a = (0, fracE a)) := by show _ = _; unfold signS ifOk; rw [if_neg ea]
    have hne : (((fracE a : Nat) : Int) != 0) = true := by rw [bne_iff_ne]; omega
    clear HN1
    generalize fracE a = n at *
    go_wp2_with fail
    go_ret2
    exact ⟨by rw [HR.out]; rfl, extA⟩
  have HNA := Lib.hid (HN1.out ea)
  have HR : Hid (signS a = (signN (numOf a), 0)) := by
    show _ = _
    unfold signS ifOk signN
    rw [if_pos ea, ← numOf_val]
    unfold valQ
    rw [num_sign (numOf_len ea).2]
  rw [ea]
  clear ea HN1
  have hne : (((0 : Nat) : Int) != 0) = false := rfl
  have EV : Ext w1 (w1.alloc (.cells #[.bool s1, .slice ta tn tc, .slice ba bn bc] 116)) := extA
  have X : Num3 w1.heap.size (w1.alloc (.cells #[.bool s1, .slice ta tn tc, .slice ba bn bc] 116)) (.bool s1) (.slice ta tn tc) (.slice ba bn bc) := ⟨by go_simp, by go_simp, by go_simp, by go_simp, by go_simp, by go_simp⟩
  have E := hE.trans EV
  replace HNA := Lib.hid (HNA.out.ext EV)
  clear EV hE
  go_wp2_with fail
  refine (sign_any (numOf a) _ _ HNA.out).mono ?_
  rintro e w3 ⟨rfl, e3⟩
  go_wp2_with fail
  go_ret2
  exact ⟨by rw [HR.out]; rfl, E.trans e3⟩
end Go.Proofs.YtdejgaiocjfhjaaGreatDoor
namespace Go.Proofs.YtdejgaiocjfhjaaGreatDoor
open Go.RowKit
open Go.Lib (decDigits itoa)
set_option maxHeartbeats 2000000 in
theorem rShort_any (s : Txt) (w : World) : Calls Tryz.prog 122 #[txt s] w fun e w' => e = .returned (.bool (decide (s.length ≤ 10))) ∧ w' = w := by
  have HB : Hid (decide ((s.length : Int) ≤ 10) = decide (s.length ≤ 10)) := by
    show _ = _
    exact decide_eq_decide.2 (by omega)
  go_enter Tryz.func122, Tryz.ntmps122
  go_wp2
  go_ret
  exact ⟨ret_bool HB.out, rfl⟩
end Go.Proofs.YtdejgaiocjfhjaaGreatDoor
namespace Go.Proofs.YtdejgaiocjfhjaaGreatDoor
open Go.Lib (decDigits itoa)
theorem GoodE.square {K : Nat} {a : Enc} {p q : Rat} (h : GoodE K a p q) (hK : K + K ≤ 60) (h1 : 1 ≤ K) :
    squareE a = (encT (sqLo a) (sqHi a), 0) ∧ GoodE (K + K) (encT (sqLo a) (sqHi a)) (sqLo a) (sqHi a) := by
  have e1 := h.lo.val
  have e2 := h.hi.val
  have f0 : FitB (K + K) 0 := zero_good.fit.mono (by omega)
  have f1 : FitB (K + K) (sqLo a) := by
    unfold sqLo lo2; rw [e1, e2]
    split
    · exact f0
    · split
      · exact h.hi.fit.mul h.hi.fit
      · exact h.lo.fit.mul h.lo.fit
  have f2 : FitB (K + K) (sqHi a) := by
    unfold sqHi hi2; rw [e1, e2]
    split
    · exact h.hi.fit.mul h.hi.fit
    · exact h.lo.fit.mul h.lo.fit
  obtain ⟨h1, h2⟩ := GoodE.of f1 f2 hK sq_le.2
  refine ⟨?_, h2⟩
  unfold squareE
  rw [if_neg (not_not_intro h.ok), h1]
theorem GoodE.width {K : Nat} {a : Enc} {p q : Rat} (h : GoodE K a p q) (hK : K + K + 1 ≤ 60) : widthE a = (fracT (q - p), 0) ∧ Good (K + K + 1) (fracT (q - p)) (q - p) := by
  obtain ⟨h1, h2⟩ := h.hi.sub h.lo hK
  refine ⟨?_, h2⟩
  unfold widthE
  rw [if_neg (not_not_intro h.ok), h1]
theorem GoodE.within {K L : Nat} {a b : Enc} {p q r s : Rat} (h : GoodE K a p q) (k : GoodE L b r s) (h1 : r ≤ p) (h2 : q ≤ s) : withinE a b = (true, 0) := by
  unfold withinE
  rw [if_neg (not_not_intro (h.both k)), decide_eq_true, decide_eq_true]
  · rfl
  · rw [ord_le', h.hi.val, k.hi.val]; exact h2
  · rw [ord_le', h.lo.val, k.lo.val]; exact h1
def withinQ (p q : Rat) (k : Nat) : Rat := p + (k : Rat) / (255 : Nat) * (q - p)
end Go.Proofs.YtdejgaiocjfhjaaGreatDoor
namespace Go.Proofs.YtdejgaiocjfhjaaGreatDoor
open Go.Lib (decDigits itoa)
theorem within_fit {p q : Rat} (hp : FitB 10 p) (hq : FitB 10 q) {k : Nat} (hk : k ≤ 255) : FitB 23 (withinQ p q k) := by
  have e : withinQ p q k = mkRat (p.num * q.den * 255 + k * (q.num * p.den - p.num * q.den)) (255 * (p.den * q.den)) := by
    rw [Rat.mkRat_eq_div]
    have h1 := num_den p
    have h2 := num_den q
    have hd : (p.den : Rat) ≠ 0 := by exact_mod_cast p.den_nz
    have hd2 : (q.den : Rat) ≠ 0 := by exact_mod_cast q.den_nz
    have e1 : ((p.num * q.den * 255 + k * (q.num * p.den - p.num * q.den) : Int) : Rat) = (p.num : Rat) * (q.den : Rat) * 255 + (k : Rat) * ((q.num : Rat) * (p.den : Rat) - (p.num : Rat) * (q.den : Rat)) := by
      push_cast; rfl
    have e2 : ((255 * (p.den * q.den) : Nat) : Rat) = 255 * ((p.den : Rat) * (q.den : Rat)) := by push_cast; rfl
    rw [e1, e2, h1, h2]
    unfold withinQ
    have e3 : ((255 : Nat) : Rat) = 255 := rfl
    rw [e3]
    grind
  rw [e]
  have h1 := pow_mul_lt hp.1 hq.2
  have h2 := pow_mul_lt hq.1 hp.2
  have h3 := pow_mul_lt hp.2 hq.2
  refine fit_mk ?_ ?_ ?_
  · exact Nat.mul_ne_zero (by omega) (Nat.mul_ne_zero p.den_nz q.den_nz)
  · have a1 := Int.natAbs_add_le (p.num * q.den * 255) (k * (q.num * p.den - p.num * q.den))
    have a2 := Int.natAbs_sub_le (q.num * p.den) (p.num * q.den)
    rw [Int.natAbs_mul (p.num * q.den), Int.natAbs_mul (k : Int)] at a1
    simp only [Int.natAbs_mul, Int.natAbs_natCast] at a1 a2
    have a3 := Nat.mul_le_mul hk a2
    generalize (q.num * p.den - p.num * q.den).natAbs = z at *
    generalize p.num.natAbs * q.den = x at *
    generalize q.num.natAbs * p.den = y at *
    have a4 := Nat.mul_le_mul hk (Nat.le_refl z)
    simp only [show (255 : Int).natAbs = 255 from rfl] at a1
    have e5 : (10 : Nat) ^ (10 + 10) = 100000000000000000000 := by decide
    have e6 : (10 : Nat) ^ 23 = 100000000000000000000000 := by decide
    rw [e5] at *
    rw [e6]
    omega
  · generalize p.den * q.den = x at *
    have e5 : (10 : Nat) ^ (10 + 10) = 100000000000000000000 := by decide
    have e6 : (10 : Nat) ^ 23 = 100000000000000000000000 := by decide
    rw [e5] at *
    rw [e6]
    omega
def withinT (a : Enc) (k : Nat) : Txt := fracT (withinQ (fracQ a.1) (fracQ a.2) k)
theorem ShortR.within {a : Enc} (h : ShortR a) {k : Nat} (hk : k ≤ 255) : Good 23 (withinT a k) (withinQ (fracQ a.1) (fracQ a.2) k) :=
  (Good.of (within_fit h.good.lo.fit h.good.hi.fit hk) (by omega)).2
theorem prod_in {p q r s x y : Rat} (h1 : p ≤ x) (h2 : x ≤ q) (k1 : r ≤ y) (k2 : y ≤ s) : lo4 (p * r) (p * s) (q * r) (q * s) ≤ x * y ∧ x * y ≤ hi4 (p * r) (p * s) (q * r) (q * s) := by
  obtain ⟨a1, a2, a3, a4, _⟩ := lo4_le (p * r) (p * s) (q * r) (q * s)
  obtain ⟨b1, b2, b3, b4, _⟩ := le_hi4 (p * r) (p * s) (q * r) (q * s)
  generalize lo4 (p * r) (p * s) (q * r) (q * s) = m at *
  generalize hi4 (p * r) (p * s) (q * r) (q * s) = M at *
  have key : ∀ z, m ≤ z * r → m ≤ z * s → z * r ≤ M → z * s ≤ M → m ≤ z * y ∧ z * y ≤ M := fun z c1 c2 c3 c4 => by
    rcases (Rat.le_total : 0 ≤ z ∨ z ≤ 0) with hz | hz
    · have d1 := mul_le k1 hz
      have d2 := mul_le k2 hz
      grind
    · have d1 := mul_ge k1 hz
      have d2 := mul_ge k2 hz
      grind
  obtain ⟨c1, c2⟩ := key p a1 a2 b1 b2
  obtain ⟨c3, c4⟩ := key q a3 a4 b3 b4
  rcases (Rat.le_total : 0 ≤ y ∨ y ≤ 0) with hz | hz
  · have d1 := mul_le h1 hz
    have d2 := mul_le h2 hz
    grind
  · have d1 := mul_ge h1 hz
    have d2 := mul_ge h2 hz
    grind
end Go.Proofs.YtdejgaiocjfhjaaGreatDoor
namespace Go.Proofs.YtdejgaiocjfhjaaGreatDoor
open Go.Lib (decDigits itoa)
theorem law_self {a b : Enc} (ha : ShortR a) (hb : ShortR b) : SelfR a b := by
  have ga := ha.good
  have gb := hb.good
  obtain ⟨s1, s2⟩ := ga.square (by omega) (by omega)
  obtain ⟨m1, m2⟩ := ga.mul ga (by omega)
  obtain ⟨a1, a2⟩ := ga.add gb (by omega)
  obtain ⟨x1, x2⟩ := ga.width (by omega)
  obtain ⟨y1, y2⟩ := gb.width (by omega)
  obtain ⟨z1, z2⟩ := a2.width (by omega)
  obtain ⟨t1, t2⟩ := x2.add y2 (by omega)
  have hs := sq_le (a := a)
  have hle := ga.le
  have hmul : prodLo a a ≤ sqLo a ∧ sqHi a ≤ prodHi a a := by
    have p1 := prod_in (Rat.le_refl (a := fracQ a.1)) hle (Rat.le_refl (a := fracQ a.1)) hle
    have p2 := prod_in hle (Rat.le_refl (a := fracQ a.2)) hle (Rat.le_refl (a := fracQ a.2))
    have p3 : has0 a = true → prodLo a a ≤ 0 := fun h => by
      unfold has0 at h
      simp only [Bool.and_eq_true, decide_eq_true_eq] at h
      have := (prod_in h.1 h.2 (Rat.le_refl (a := fracQ a.1)) hle).1
      rw [Rat.zero_mul] at this
      exact this
    unfold sqLo sqHi lo2 hi2
    unfold prodLo at *
    unfold prodHi
    constructor
    · split
      · exact p3 (by assumption)
      · split
        · exact p2.1
        · exact p1.1
    · split
      · exact p2.2
      · exact p1.2
  refine ⟨by rw [s1], by rw [m1], by rw [s1, m1]; exact s2.within m2 hmul.1 hmul.2, ?_, ?_, by rw [a1], by rw [x1], by rw [y1], by rw [a1]; dsimp only; rw [z1], by rw [x1, y1, t1], ?_, by rw [s1]; exact s2.len, by rw [m1]; exact m2.len, by rw [a1]; exact a2.len, by rw [x1]; exact x2.len, by rw [y1]; exact y2.len⟩
  · rw [s1]; rw [s2.lo.sign]
  · rw [s1]; rw [s2.lo.sign]
    have := Rat.num_nonneg.2 hs.1
    have k := (Int.sign_neg_iff (x := (sqLo a).num)).1
    dsimp only
    omega
  · rw [x1, y1, t1, a1]
    dsimp only
    rw [z1]
    dsimp only
    congr 1
    grind
end Go.Proofs.YtdejgaiocjfhjaaGreatDoor
namespace Go.Proofs.YtdejgaiocjfhjaaGreatDoor
open Go.RowKit
def shortE (a : Enc) : Bool := decide (a.1.length ≤ 10) && decide (a.2.length ≤ 10)
set_option maxHeartbeats 4000000 in
theorem short2_any (a : Enc) (w : World) : Calls Tryz.prog 87 #[encV a] w fun e w' => e = .returned (.bool (shortE a)) ∧ Ext w w' := by
  obtain ⟨l, h⟩ := a
  have H1 := Lib.hid (fun W => rShort_any l W)
  have H2 := Lib.hid (fun W => rShort_any h W)
  unfold shortE
  dsimp only [encV] at *
  generalize decide (l.length ≤ 10) = b1 at *
  generalize decide (h.length ≤ 10) = b2 at *
  have E : Ext w (w.alloc (.cells #[txt l, txt h] 24)) := extA
  cases b1
  · go_enter Tryz.func87, Tryz.ntmps87
    go_wp2_with (go_at_call 122; refine (H1.out _).mono ?_; rintro e w' ⟨rfl, rfl⟩)
    go_ret
    exact ⟨rfl, E⟩
  · cases b2
    all_goals
      go_enter Tryz.func87, Tryz.ntmps87
      go_wp2_with fail
      refine (H1.out _).mono ?_
      clear H1
      rintro e w' ⟨rfl, hw⟩; obtain rfl := hw.symm; clear hw
      go_wp2_with fail
      refine (H2.out _).mono ?_
      rintro e w' ⟨rfl, hw⟩; obtain rfl := hw.symm; clear hw
      go_wp2_with fail
      go_ret
      exact ⟨rfl, E⟩
end Go.Proofs.YtdejgaiocjfhjaaGreatDoor
namespace Go.Proofs.YtdejgaiocjfhjaaGreatDoor
open Go.RowKit
open Go.Lib (decDigits itoa)
def okE (a : Enc) : Bool := shortE a && (encE a == 0)
theorem okE_short {a : Enc} (h : okE a = true) : ShortR a := by
  unfold okE shortE at h
  simp only [Bool.and_eq_true, decide_eq_true_eq, beq_iff_eq] at h
  exact ⟨h.2, h.1.1, h.1.2⟩
theorem all_dropE {l : List Enc} {k : Nat} (h : k < l.length) : (l.drop k).all okE = (okE (l.getD k ([], [])) && (l.drop (k + 1)).all okE) := by
  rw [List.drop_eq_getElem_cons h, getD_enc h, List.all_cons]
set_option maxHeartbeats 4000000 in
set_option maxRecDepth 100000 in
theorem lawRight_any (l : List Enc) (a : Option Addr) (cap : Nat) (w : World) (hc : CellsE w a l) (hm : l.length ≤ 1000) :
    Calls Tryz.prog 36 #[.slice a l.length cap] w fun e w' => e = .returned (.bool (l.all okE)) ∧ Ext w w' := by
  have HC := Lib.hid hc
  obtain ⟨S, hS⟩ : ∃ S, S = l.all okE := ⟨_, rfl⟩
  have HS := Lib.hid hS
  rw [← hS]
  clear hc hS
  go_enter Tryz.func36, Tryz.ntmps36
  go_wp2
  go_loopw [7] (fun i wr => ∃ k : Nat, k ≤ l.length ∧ i = .int .i64 k ∧ Hid (S = (l.drop k).all okE) ∧ Ext w wr) (fun i _ => l.length - (intOf i).toNat)
  case atStart => exact ⟨0, by omega, rfl, HS.out, Ext.refl _⟩
  case round =>
    obtain ⟨k, hk, rfl, HE, he⟩ := hrel
    by_cases hlt : k < l.length
    · have hki : (k : Int) < (l.length : Int) := by omega
      have hkw : IntKind.i64.wrap ((k : Int) + 1) = (k : Int) + 1 := by rw [IntKind.wrap_i64]; omega
      obtain ⟨b, off, ha, hc1, hc2⟩ := HC.out.ext he k hlt
      subst ha
      have hst := HE.out.trans (all_dropE hlt)
      generalize l.getD k ([], []) = x at hc1 hc2 hst
      have H1 := Lib.hid (fun W => short2_any x W)
      have H2 : Hid (shortE x = true → ∀ W, Calls Tryz.prog 45 #[encV x] W fun e w' => e = .returned (.int .i64 (encE x : Nat)) ∧ Ext W w') := fun h W => rCheck2_any x W (by
        unfold shortE at h
        simp only [Bool.and_eq_true, decide_eq_true_eq] at h
        exact ⟨by omega, by omega⟩)
      unfold okE at hst
      generalize shortE x = sh at *
      generalize encE x = n at *
      obtain ⟨x1, x2⟩ := x
      dsimp only [encV] at hc1 hc2 H1 H2
      have P := encAt_new wr wr.heap.size rfl x1 x2 24
      have EA : Ext wr (wr.alloc (.cells #[txt x1, txt x2] 24)) := extA
      have E := he.trans EA
      clear EA HE
      cases sh
      · have HR : Hid (S = false) := by show _ = _; rw [hst]; rfl
        clear hst
        go_wp2_with fail
        refine (H1.out _).mono ?_
        rintro e w1 ⟨rfl, hE⟩
        replace E := E.trans hE
        go_wp2_with fail
        go_ret
        exact ⟨by rw [HR.out]; rfl, E⟩
      · have H2b : Hid (∀ W, Calls Tryz.prog 45 #[.agg #[txt x1, txt x2]] W fun e w' => e = .returned (.int .i64 (n : Nat)) ∧ Ext W w') := H2.out rfl
        clear H2
        go_wp2_with fail
        generalize (wr.alloc (.cells #[txt x1, txt x2] 24)) = wb at P E ⊢
        obtain ⟨nb, hnb⟩ : ∃ nb, nb = wr.heap.size := ⟨_, rfl⟩
        rw [← hnb] at P ⊢
        clear hnb hc1 hc2
        refine (H1.out _).mono ?_
        clear H1
        rintro e w1 ⟨rfl, hE⟩
        replace E := E.trans hE
        obtain ⟨p0, p1, _, _⟩ := P.ext hE
        clear hE P
        go_wp2_with fail
        refine (H2b.out _).mono ?_
        clear H2b p0 p1
        rintro e w2 ⟨rfl, hE⟩
        replace E := E.trans hE
        clear hE
        by_cases hn : n = 0
        · subst hn
          have HE2 : Hid (S = (l.drop (k + 1)).all okE) := by show _ = _; rw [hst]; rfl
          have hne : (((0 : Nat) : Int) != 0) = false := rfl
          clear hst
          go_wp2
          refine ⟨⟨k + 1, by omega, by go_num, HE2, E⟩, by simp [intOf]; omega⟩
        · have hne : (((n : Nat) : Int) != 0) = true := by rw [bne_iff_ne]; omega
          have hb : (n == 0) = false := by rw [beq_eq_false_iff_ne]; exact hn
          have HR : Hid (S = false) := by show _ = _; rw [hst, hb]; rfl
          clear hst hb
          go_wp2
          go_ret
          exact ⟨by rw [HR.out]; rfl, E⟩
    · have hki : ¬ (k : Int) < (l.length : Int) := by omega
      have HR : Hid (S = true) := by show _ = _; rw [HE.out, List.drop_eq_nil_of_le (by omega)]; rfl
      clear HE
      go_wp2
      go_ret
      exact ⟨by rw [HR.out]; rfl, he⟩
theorem right_two (a b : Enc) (W : World) (t : TypeId) (n : Nat) (v : World) (hn : n = v.heap.size) (hW : W = v.alloc (.cells #[txt a.1, txt a.2, txt b.1, txt b.2] t)) :
    Calls Tryz.prog 36 #[.slice (some ⟨n, 0, none⟩) 2 2] W fun e w' => e = .returned (.bool (okE a && okE b)) ∧ Ext W w' := by
  subst hn
  have k := lawRight_any [a, b] (some ⟨v.heap.size, 0, none⟩) 2 W (by rw [hW]; exact pair_enc v a b _) (by simp)
  have e : [a, b].all okE = (okE a && okE b) := by simp
  rw [e] at k
  exact k
end Go.Proofs.YtdejgaiocjfhjaaGreatDoor
namespace Go.Proofs.YtdejgaiocjfhjaaGreatDoor
open Go.RowKit
structure MeetsD (a b : Enc) (c1 c2 h1 h2 : Txt) (ok : Bool) (n : Int) : Prop where
  m : meetE a b = ((c1, c2), ok, 0)
  h : hullE a b = ((h1, h2), 0)
  x : compareE a b = (n, 0)
  y : compareE b a = (-n, 0)
  k : ok = decide (n = 0)
  lo : -1 ≤ n
  hi : n ≤ 1
  wa : withinE a (h1, h2) = (true, 0)
  wb : withinE b (h1, h2) = (true, 0)
  ca : ok = true → withinE (c1, c2) a = (true, 0)
  cb : ok = true → withinE (c1, c2) b = (true, 0)
  lh : LenE (h1, h2)
  lc : LenE (c1, c2)
structure SelfD (a b : Enc) (s1 s2 p1 p2 c1 c2 x y z : Txt) (n : Int) : Prop where
  s : squareE a = ((s1, s2), 0)
  p : mulE a a = ((p1, p2), 0)
  w : withinE (s1, s2) (p1, p2) = (true, 0)
  g : signS s1 = (n, 0)
  n0 : 0 ≤ n
  c : addE a b = ((c1, c2), 0)
  ex : widthE a = (x, 0)
  ey : widthE b = (y, 0)
  ez : widthE (c1, c2) = (z, 0)
  t : addS x y = (z, 0)
  ls : LenE (s1, s2)
  lp : LenE (p1, p2)
  lc : LenE (c1, c2)
  lx : x.length ≤ 400
  ly : y.length ≤ 400
theorem self_data {a b : Enc} (ha : ShortR a) (hb : ShortR b) : ∃ s1 s2 p1 p2 c1 c2 x y z n, SelfD a b s1 s2 p1 p2 c1 c2 x y z n := by
  have M := law_self ha hb
  refine ⟨(squareE a).1.1, (squareE a).1.2, (mulE a a).1.1, (mulE a a).1.2, (addE a b).1.1, (addE a b).1.2, (widthE a).1, (widthE b).1, (widthE (addE a b).1).1, (signS (squareE a).1.1).1, ?_, ?_, M.w, ?_, M.n, ?_, ?_, ?_, ?_, ?_, M.l1, M.l2, M.l3, M.l4, M.l5⟩
  · rw [← M.e]
  · rw [← M.f]
  · rw [← M.h]
  · rw [← M.i]
  · rw [← M.j]
  · rw [← M.k]
  · rw [← M.l]
  · rw [← M.z, ← M.m]
set_option maxHeartbeats 16000000 in
set_option maxRecDepth 100000 in
theorem lawSelf_any (a b : Enc) (w : World) (hG : Glob w) : Calls Tryz.prog 9 #[encV a, encV b] w (TrueP w) := by
  have HG := Lib.hid hG
  clear hG
  have HA : Hid (∀ W, Ext w W → Calls Tryz.prog 15 #[] W fun e w' => e = .returned (.bool true) ∧ Ext W w') := fun W h => awake2_any W (HG.out.ext h)
  have HRT := Lib.hid (fun W v n hn hW => right_two a b W 24 n v hn hW)
  unfold TrueP
  cases hok : (okE a && okE b)
  · rw [hok] at HRT
    obtain ⟨l, h⟩ := a
    obtain ⟨m, k⟩ := b
    dsimp only [encV] at HRT ⊢
    clear hok HG
    have A : EncAt (w.heap.size) (((w.alloc (.cells #[txt l, txt h] 24)).alloc (.cells #[txt m, txt k] 24)).alloc (.cells #[txt l, txt h, txt m, txt k] 24)) l h := ⟨by go_simp, by go_simp, by go_simp, by go_simp⟩
    have B : EncAt (w.heap.size + 1) (((w.alloc (.cells #[txt l, txt h] 24)).alloc (.cells #[txt m, txt k] 24)).alloc (.cells #[txt l, txt h, txt m, txt k] 24)) m k := ⟨by go_simp, by go_simp, by go_simp, by go_simp⟩
    have S : FourAt (w.heap.size + 1 + 1) (((w.alloc (.cells #[txt l, txt h] 24)).alloc (.cells #[txt m, txt k] 24)).alloc (.cells #[txt l, txt h, txt m, txt k] 24)) l h m k := ⟨by go_simp, by go_simp, by go_simp, by go_simp, by go_simp, by go_simp, by go_simp, by go_simp⟩
    have E : Ext w (((w.alloc (.cells #[txt l, txt h] 24)).alloc (.cells #[txt m, txt k] 24)).alloc (.cells #[txt l, txt h, txt m, txt k] 24)) := extA
    go_enter Tryz.func9, Tryz.ntmps9
    go_wp2_with fail
    generalize hQ : (((w.alloc (.cells #[txt l, txt h] 24)).alloc (.cells #[txt m, txt k] 24)).alloc (.cells #[txt l, txt h, txt m, txt k] 24)) = w0 at A B S E ⊢
    have HR1 := HRT.out w0 ((w.alloc (.cells #[txt l, txt h] 24)).alloc (.cells #[txt m, txt k] 24)) (w.heap.size + 1 + 1) (by simp) hQ.symm
    clear HRT hQ
    refine (HR1).mono ?_
    clear HR1
    rintro e w1 ⟨rfl, hE⟩
    replace E := E.trans hE
    replace A := A.ext hE
    replace B := B.ext hE
    replace S := S.ext hE
    clear hE
    clear S
    have A' := A
    have B' := B
    obtain ⟨A0, A1, A2, A3⟩ := A
    have zA := cell_lt A0
    dsimp only at zA
    obtain ⟨B0, B1, B2, B3⟩ := B
    have zB := cell_lt B0
    dsimp only at zB
    go_wp2_with fail
    clear A0 A1 A2 A3 zA B0 B1 B2 B3 zB
    have A := A'
    clear A'
    have B := B'
    clear B'
    refine (HA.out _ E).mono ?_
    rintro e w2 ⟨rfl, hE⟩
    replace E := E.trans hE
    replace A := A.ext hE
    replace B := B.ext hE
    clear hE
    go_wp2_with fail
    go_ret
    exact ⟨rfl, E⟩
  rw [hok] at HRT
  obtain ⟨oa, ob⟩ := Bool.and_eq_true_iff.1 hok
  have ha := okE_short oa
  have hb := okE_short ob
  clear hok oa ob
  obtain ⟨s1, s2, p1, p2, c1, c2, x, y, z, n, D⟩ := self_data ha hb
  have hl := ha.good.len
  have hm := hb.good.len
  have X0 : Hid (∀ W, Ext w W → Calls Tryz.prog 16 #[encV a] W (EncP ((s1, s2), 0) W)) := fun W g => by rw [← D.s]; exact eSquare_any a W (HG.out.ext g) hl
  have X1 : Hid (∀ W, Ext w W → Calls Tryz.prog 24 #[encV a, encV a] W (EncP ((p1, p2), 0) W)) := fun W g => by rw [← D.p]; exact eMul_any a a W (HG.out.ext g) hl hl
  have X2 : Hid (∀ W, Ext w W → Calls Tryz.prog 32 #[encV (s1, s2), encV (p1, p2)] W (BoolP true 0 W)) := fun W g => by have q := eWithin_any (s1, s2) (p1, p2) W (HG.out.ext g) D.ls D.lp; rw [D.w] at q; exact q
  have X3 : Hid (∀ W, Ext w W → Calls Tryz.prog 51 #[txt s1] W (IntP n 0 W)) := fun W g => by have q := signF_any s1 W (HG.out.ext g) D.ls.1; rw [D.g] at q; exact q
  have X4 : Hid (∀ W, Ext w W → Calls Tryz.prog 20 #[encV a, encV b] W (EncP ((c1, c2), 0) W)) := fun W g => by rw [← D.c]; exact eAdd_any a b W (HG.out.ext g) hl hm
  have X5 : Hid (∀ W, Ext w W → Calls Tryz.prog 18 #[encV a] W (ResP (x, 0) W)) := fun W g => by rw [← D.ex]; exact eWidth_any a W (HG.out.ext g) hl
  have X6 : Hid (∀ W, Ext w W → Calls Tryz.prog 18 #[encV b] W (ResP (y, 0) W)) := fun W g => by rw [← D.ey]; exact eWidth_any b W (HG.out.ext g) hm
  have X7 : Hid (∀ W, Ext w W → Calls Tryz.prog 18 #[encV (c1, c2)] W (ResP (z, 0) W)) := fun W g => by rw [← D.ez]; exact eWidth_any (c1, c2) W (HG.out.ext g) D.lc
  have X8 : Hid (∀ W, Ext w W → Calls Tryz.prog 47 #[txt x, txt y] W (ResP (z, 0) W)) := fun W g => by rw [← D.t]; exact add_any x y W (HG.out.ext g) D.lx D.ly
  unfold EncP at X0 X1 X4
  unfold BoolP at X2
  unfold IntP at X3
  unfold ResP at X5 X6 X7 X8
  have hn0 := D.n0
  have hw0 : IntKind.i64.wrap 0 = 0 := by decide
  obtain ⟨l, h⟩ := a
  obtain ⟨m, k⟩ := b
  dsimp only [encV] at HRT X0 X1 X2 X3 X4 X5 X6 X7 X8 ⊢
  clear ha hb hl hm D HG
  have A : EncAt (w.heap.size) (((w.alloc (.cells #[txt l, txt h] 24)).alloc (.cells #[txt m, txt k] 24)).alloc (.cells #[txt l, txt h, txt m, txt k] 24)) l h := ⟨by go_simp, by go_simp, by go_simp, by go_simp⟩
  have B : EncAt (w.heap.size + 1) (((w.alloc (.cells #[txt l, txt h] 24)).alloc (.cells #[txt m, txt k] 24)).alloc (.cells #[txt l, txt h, txt m, txt k] 24)) m k := ⟨by go_simp, by go_simp, by go_simp, by go_simp⟩
  have S : FourAt (w.heap.size + 1 + 1) (((w.alloc (.cells #[txt l, txt h] 24)).alloc (.cells #[txt m, txt k] 24)).alloc (.cells #[txt l, txt h, txt m, txt k] 24)) l h m k := ⟨by go_simp, by go_simp, by go_simp, by go_simp, by go_simp, by go_simp, by go_simp, by go_simp⟩
  have E : Ext w (((w.alloc (.cells #[txt l, txt h] 24)).alloc (.cells #[txt m, txt k] 24)).alloc (.cells #[txt l, txt h, txt m, txt k] 24)) := extA
  go_enter Tryz.func9, Tryz.ntmps9
  go_wp2_with fail
  generalize hQ : (((w.alloc (.cells #[txt l, txt h] 24)).alloc (.cells #[txt m, txt k] 24)).alloc (.cells #[txt l, txt h, txt m, txt k] 24)) = w0 at A B S E ⊢
  have HR1 := HRT.out w0 ((w.alloc (.cells #[txt l, txt h] 24)).alloc (.cells #[txt m, txt k] 24)) (w.heap.size + 1 + 1) (by simp) hQ.symm
  clear HRT hQ
  refine (HR1).mono ?_
  clear HR1
  rintro e w1 ⟨rfl, hE⟩
  replace E := E.trans hE
  replace A := A.ext hE
  replace B := B.ext hE
  replace S := S.ext hE
  clear hE
  clear S
  have A' := A
  have B' := B
  obtain ⟨A0, A1, A2, A3⟩ := A
  have zA := cell_lt A0
  dsimp only at zA
  obtain ⟨B0, B1, B2, B3⟩ := B
  have zB := cell_lt B0
  dsimp only at zB
  go_wp2_with fail
  clear A0 A1 A2 A3 zA B0 B1 B2 B3 zB
  have A := A'
  clear A'
  have B := B'
  clear B'
  refine (X0.out _ E).mono ?_
  clear X0
  rintro e w2 ⟨rfl, hE⟩
  replace E := E.trans hE
  replace A := A.ext hE
  replace B := B.ext hE
  clear hE
  have A' := A
  have B' := B
  obtain ⟨A0, A1, A2, A3⟩ := A
  have zA := cell_lt A0
  dsimp only at zA
  obtain ⟨B0, B1, B2, B3⟩ := B
  have zB := cell_lt B0
  dsimp only at zB
  have S : EncAt (w2.heap.size) (w2.alloc (.cells #[txt s1, txt s2] 24)) s1 s2 := ⟨by go_simp, by go_simp, by go_simp, by go_simp⟩
  have EA : Ext w2 (w2.alloc (.cells #[txt s1, txt s2] 24)) := extA
  replace A' := A'.ext EA
  replace B' := B'.ext EA
  replace E := E.trans EA
  clear EA
  go_wp2_with fail
  clear A0 A1 A2 A3 zA B0 B1 B2 B3 zB
  have A := A'
  clear A'
  have B := B'
  clear B'
  obtain ⟨bS, hbS⟩ : ∃ b, b = w2.heap.size := ⟨_, rfl⟩
  rw [← hbS] at S  ⊢
  generalize (w2.alloc (.cells #[txt s1, txt s2] 24)) = w3 at A B S E ⊢
  clear hbS
  refine (X1.out _ E).mono ?_
  clear X1
  rintro e w4 ⟨rfl, hE⟩
  replace E := E.trans hE
  replace A := A.ext hE
  replace B := B.ext hE
  replace S := S.ext hE
  clear hE
  have A' := A
  have B' := B
  have S' := S
  obtain ⟨A0, A1, A2, A3⟩ := A
  have zA := cell_lt A0
  dsimp only at zA
  obtain ⟨B0, B1, B2, B3⟩ := B
  have zB := cell_lt B0
  dsimp only at zB
  obtain ⟨S0, S1, S2, S3⟩ := S
  have zS := cell_lt S0
  dsimp only at zS
  have P : EncAt (w4.heap.size) (w4.alloc (.cells #[txt p1, txt p2] 24)) p1 p2 := ⟨by go_simp, by go_simp, by go_simp, by go_simp⟩
  have EA : Ext w4 (w4.alloc (.cells #[txt p1, txt p2] 24)) := extA
  replace A' := A'.ext EA
  replace B' := B'.ext EA
  replace S' := S'.ext EA
  replace E := E.trans EA
  clear EA
  go_wp2_with fail
  clear A0 A1 A2 A3 zA B0 B1 B2 B3 zB S0 S1 S2 S3 zS
  have A := A'
  clear A'
  have B := B'
  clear B'
  have S := S'
  clear S'
  obtain ⟨bP, hbP⟩ : ∃ b, b = w4.heap.size := ⟨_, rfl⟩
  rw [← hbP] at P  ⊢
  generalize (w4.alloc (.cells #[txt p1, txt p2] 24)) = w5 at A B S P E ⊢
  clear hbP
  refine (X2.out _ E).mono ?_
  clear X2
  rintro e w6 ⟨rfl, hE⟩
  replace E := E.trans hE
  replace A := A.ext hE
  replace B := B.ext hE
  replace S := S.ext hE
  replace P := P.ext hE
  clear hE
  have A' := A
  have B' := B
  have S' := S
  have P' := P
  obtain ⟨A0, A1, A2, A3⟩ := A
  have zA := cell_lt A0
  dsimp only at zA
  obtain ⟨B0, B1, B2, B3⟩ := B
  have zB := cell_lt B0
  dsimp only at zB
  obtain ⟨S0, S1, S2, S3⟩ := S
  have zS := cell_lt S0
  dsimp only at zS
  obtain ⟨P0, P1, P2, P3⟩ := P
  have zP := cell_lt P0
  dsimp only at zP
  go_wp2_with fail
  clear A0 A1 A2 A3 zA B0 B1 B2 B3 zB S0 S1 S2 S3 zS P0 P1 P2 P3 zP
  have A := A'
  clear A'
  have B := B'
  clear B'
  have S := S'
  clear S'
  have P := P'
  clear P'
  refine (X3.out _ E).mono ?_
  clear X3
  rintro e w7 ⟨rfl, hE⟩
  replace E := E.trans hE
  replace A := A.ext hE
  replace B := B.ext hE
  replace S := S.ext hE
  replace P := P.ext hE
  clear hE
  have A' := A
  have B' := B
  have S' := S
  have P' := P
  obtain ⟨A0, A1, A2, A3⟩ := A
  have zA := cell_lt A0
  dsimp only at zA
  obtain ⟨B0, B1, B2, B3⟩ := B
  have zB := cell_lt B0
  dsimp only at zB
  obtain ⟨S0, S1, S2, S3⟩ := S
  have zS := cell_lt S0
  dsimp only at zS
  obtain ⟨P0, P1, P2, P3⟩ := P
  have zP := cell_lt P0
  dsimp only at zP
  go_wp2_with fail
  clear A0 A1 A2 A3 zA B0 B1 B2 B3 zB S0 S1 S2 S3 zS P0 P1 P2 P3 zP
  have A := A'
  clear A'
  have B := B'
  clear B'
  have S := S'
  clear S'
  have P := P'
  clear P'
  refine (X4.out _ E).mono ?_
  clear X4
  rintro e w8 ⟨rfl, hE⟩
  replace E := E.trans hE
  replace A := A.ext hE
  replace B := B.ext hE
  replace S := S.ext hE
  replace P := P.ext hE
  clear hE
  have A' := A
  have B' := B
  have S' := S
  have P' := P
  obtain ⟨A0, A1, A2, A3⟩ := A
  have zA := cell_lt A0
  dsimp only at zA
  obtain ⟨B0, B1, B2, B3⟩ := B
  have zB := cell_lt B0
  dsimp only at zB
  obtain ⟨S0, S1, S2, S3⟩ := S
  have zS := cell_lt S0
  dsimp only at zS
  obtain ⟨P0, P1, P2, P3⟩ := P
  have zP := cell_lt P0
  dsimp only at zP
  have C : EncAt (w8.heap.size) (w8.alloc (.cells #[txt c1, txt c2] 24)) c1 c2 := ⟨by go_simp, by go_simp, by go_simp, by go_simp⟩
  have EA : Ext w8 (w8.alloc (.cells #[txt c1, txt c2] 24)) := extA
  replace A' := A'.ext EA
  replace B' := B'.ext EA
  replace S' := S'.ext EA
  replace P' := P'.ext EA
  replace E := E.trans EA
  clear EA
  go_wp2_with fail
  clear A0 A1 A2 A3 zA B0 B1 B2 B3 zB S0 S1 S2 S3 zS P0 P1 P2 P3 zP
  have A := A'
  clear A'
  have B := B'
  clear B'
  have S := S'
  clear S'
  have P := P'
  clear P'
  obtain ⟨bC, hbC⟩ : ∃ b, b = w8.heap.size := ⟨_, rfl⟩
  rw [← hbC] at C  ⊢
  generalize (w8.alloc (.cells #[txt c1, txt c2] 24)) = w9 at A B S P C E ⊢
  clear hbC
  refine (X5.out _ E).mono ?_
  clear X5
  rintro e w10 ⟨rfl, hE⟩
  replace E := E.trans hE
  replace A := A.ext hE
  replace B := B.ext hE
  replace S := S.ext hE
  replace P := P.ext hE
  replace C := C.ext hE
  clear hE
  have A' := A
  have B' := B
  have S' := S
  have P' := P
  have C' := C
  obtain ⟨A0, A1, A2, A3⟩ := A
  have zA := cell_lt A0
  dsimp only at zA
  obtain ⟨B0, B1, B2, B3⟩ := B
  have zB := cell_lt B0
  dsimp only at zB
  obtain ⟨S0, S1, S2, S3⟩ := S
  have zS := cell_lt S0
  dsimp only at zS
  obtain ⟨P0, P1, P2, P3⟩ := P
  have zP := cell_lt P0
  dsimp only at zP
  obtain ⟨C0, C1, C2, C3⟩ := C
  have zC := cell_lt C0
  dsimp only at zC
  go_wp2_with fail
  clear A0 A1 A2 A3 zA B0 B1 B2 B3 zB S0 S1 S2 S3 zS P0 P1 P2 P3 zP C0 C1 C2 C3 zC
  have A := A'
  clear A'
  have B := B'
  clear B'
  have S := S'
  clear S'
  have P := P'
  clear P'
  have C := C'
  clear C'
  refine (X6.out _ E).mono ?_
  clear X6
  rintro e w11 ⟨rfl, hE⟩
  replace E := E.trans hE
  replace A := A.ext hE
  replace B := B.ext hE
  replace S := S.ext hE
  replace P := P.ext hE
  replace C := C.ext hE
  clear hE
  have A' := A
  have B' := B
  have S' := S
  have P' := P
  have C' := C
  obtain ⟨A0, A1, A2, A3⟩ := A
  have zA := cell_lt A0
  dsimp only at zA
  obtain ⟨B0, B1, B2, B3⟩ := B
  have zB := cell_lt B0
  dsimp only at zB
  obtain ⟨S0, S1, S2, S3⟩ := S
  have zS := cell_lt S0
  dsimp only at zS
  obtain ⟨P0, P1, P2, P3⟩ := P
  have zP := cell_lt P0
  dsimp only at zP
  obtain ⟨C0, C1, C2, C3⟩ := C
  have zC := cell_lt C0
  dsimp only at zC
  go_wp2_with fail
  clear A0 A1 A2 A3 zA B0 B1 B2 B3 zB S0 S1 S2 S3 zS P0 P1 P2 P3 zP C0 C1 C2 C3 zC
  have A := A'
  clear A'
  have B := B'
  clear B'
  have S := S'
  clear S'
  have P := P'
  clear P'
  have C := C'
  clear C'
  refine (X7.out _ E).mono ?_
  clear X7
  rintro e w12 ⟨rfl, hE⟩
  replace E := E.trans hE
  replace A := A.ext hE
  replace B := B.ext hE
  replace S := S.ext hE
  replace P := P.ext hE
  replace C := C.ext hE
  clear hE
  have A' := A
  have B' := B
  have S' := S
  have P' := P
  have C' := C
  obtain ⟨A0, A1, A2, A3⟩ := A
  have zA := cell_lt A0
  dsimp only at zA
  obtain ⟨B0, B1, B2, B3⟩ := B
  have zB := cell_lt B0
  dsimp only at zB
  obtain ⟨S0, S1, S2, S3⟩ := S
  have zS := cell_lt S0
  dsimp only at zS
  obtain ⟨P0, P1, P2, P3⟩ := P
  have zP := cell_lt P0
  dsimp only at zP
  obtain ⟨C0, C1, C2, C3⟩ := C
  have zC := cell_lt C0
  dsimp only at zC
  go_wp2_with fail
  clear A0 A1 A2 A3 zA B0 B1 B2 B3 zB S0 S1 S2 S3 zS P0 P1 P2 P3 zP C0 C1 C2 C3 zC
  have A := A'
  clear A'
  have B := B'
  clear B'
  have S := S'
  clear S'
  have P := P'
  clear P'
  have C := C'
  clear C'
  refine (X8.out _ E).mono ?_
  clear X8
  rintro e w13 ⟨rfl, hE⟩
  replace E := E.trans hE
  replace A := A.ext hE
  replace B := B.ext hE
  replace S := S.ext hE
  replace P := P.ext hE
  replace C := C.ext hE
  clear hE
  have A' := A
  have B' := B
  have S' := S
  have P' := P
  have C' := C
  obtain ⟨A0, A1, A2, A3⟩ := A
  have zA := cell_lt A0
  dsimp only at zA
  obtain ⟨B0, B1, B2, B3⟩ := B
  have zB := cell_lt B0
  dsimp only at zB
  obtain ⟨S0, S1, S2, S3⟩ := S
  have zS := cell_lt S0
  dsimp only at zS
  obtain ⟨P0, P1, P2, P3⟩ := P
  have zP := cell_lt P0
  dsimp only at zP
  obtain ⟨C0, C1, C2, C3⟩ := C
  have zC := cell_lt C0
  dsimp only at zC
  go_wp2_with fail
  clear A0 A1 A2 A3 zA B0 B1 B2 B3 zB S0 S1 S2 S3 zS P0 P1 P2 P3 zP C0 C1 C2 C3 zC
  have A := A'
  clear A'
  have B := B'
  clear B'
  have S := S'
  clear S'
  have P := P'
  clear P'
  have C := C'
  clear C'
  refine (HA.out _ E).mono ?_
  rintro e w14 ⟨rfl, hE⟩
  replace E := E.trans hE
  replace A := A.ext hE
  replace B := B.ext hE
  replace S := S.ext hE
  replace P := P.ext hE
  replace C := C.ext hE
  clear hE
  go_wp2_with fail
  go_ret
  exact ⟨rfl, E⟩
end Go.Proofs.YtdejgaiocjfhjaaGreatDoor
