/- Steps of the proof: FRefS, ELaw3, ELaw4, ELaw5, ELAwk, ELRig, ELMeet. No conditions. -/
import Derived.Test.YtdejgaiocjfhjaaGreatDoorZEB1
import Derived.Test.YtdejgaiocjfhjaaGreatDoorZEB2
import Derived.Test.YtdejgaiocjfhjaaGreatDoorZEB3
import Derived.Test.YtdejgaiocjfhjaaGreatDoorZEB4
import Derived.Test.YtdejgaiocjfhjaaGreatDoorZEB5
import Derived.Test.YtdejgaiocjfhjaaGreatDoorZEB6
import Derived.Test.YtdejgaiocjfhjaaGreatDoorZEB7
import Derived.Test.YtdejgaiocjfhjaaGreatDoorZEB8
import Derived.Test.YtdejgaiocjfhjaaGreatDoorZEB9
import Derived.Test.YtdejgaiocjfhjaaGreatDoorZEB10
import Derived.Test.YtdejgaiocjfhjaaGreatDoorZEB11
import Derived.Test.YtdejgaiocjfhjaaGreatDoorZEB12
namespace Go.Proofs.YtdejgaiocjfhjaaGreatDoor
open Go.RowKit
open Go.Lib (decDigits itoa)
set_option maxHeartbeats 2000000 in
theorem rShort_any (s : Txt) (w : World) : Calls Tryz.prog 122 #[txt s] w fun e w' => e = .returned (.bool (decide (s.length ≤ 10))) ∧ w' = w := by
  have HB : Hid (decide ((s.length : Int) ≤ 10) = decide (s.length ≤ 10)) := by
    show _ = _
    exact decide_eq_decide.2 (by omega)
  go_enter Tryz.func122, Tryz.ntmps122
  go_wp2
  go_ret
  exact ⟨ret_bool HB.out, rfl⟩
end Go.Proofs.YtdejgaiocjfhjaaGreatDoor
namespace Go.Proofs.YtdejgaiocjfhjaaGreatDoor
open Go.Lib (decDigits itoa)
theorem GoodE.within {K L : Nat} {a b : Enc} {p q r s : Rat} (h : GoodE K a p q) (k : GoodE L b r s) (h1 : r ≤ p) (h2 : q ≤ s) : withinE a b = (true, 0) := by
  unfold withinE
  rw [if_neg (not_not_intro (h.both k)), decide_eq_true, decide_eq_true]
  · rfl
  · rw [ord_le', h.hi.val, k.hi.val]; exact h2
  · rw [ord_le', h.lo.val, k.lo.val]; exact h1
def sureQ (p q r s : Rat) : Int := if q < r then -1 else if s < p then 1 else 0
theorem GoodE.compare {K L : Nat} {a b : Enc} {p q r s : Rat} (h : GoodE K a p q) (k : GoodE L b r s) : compareE a b = (sureQ p q r s, 0) := by
  unfold compareE sureE sureQ
  rw [if_neg (not_not_intro (h.both k))]
  congr 1
  have e1 : ordQ a.2 b.1 < 0 ↔ q < r := by rw [ord_lt, h.hi.val, k.lo.val]
  have e2 : 0 < ordQ a.1 b.2 ↔ s < p := by rw [ord_gt, h.lo.val, k.hi.val]
  simp only [e1, e2]
theorem GoodE.meet {K : Nat} {a b : Enc} {p q r s : Rat} (h : GoodE K a p q) (k : GoodE K b r s) :
    if hi2 p r ≤ lo2 q s then meetE a b = ((lowMeet a b, highMeet a b), true, 0) ∧ GoodE K (lowMeet a b, highMeet a b) (hi2 p r) (lo2 q s) else meetE a b = (([], []), false, 0) := by
  have e1 : 0 < ordQ b.1 a.1 ↔ p < r := by rw [ord_gt, h.lo.val, k.lo.val]
  have e2 : ordQ b.2 a.2 < 0 ↔ s < q := by rw [ord_lt, h.hi.val, k.hi.val]
  have g1 : Good K (lowMeet a b) (hi2 p r) := by
    unfold lowMeet hi2; simp only [e1]
    split
    · exact k.lo
    · exact h.lo
  have g2 : Good K (highMeet a b) (lo2 q s) := by
    unfold highMeet lo2; simp only [e2]
    split
    · exact k.hi
    · exact h.hi
  have e3 : 0 < ordQ (lowMeet a b) (highMeet a b) ↔ lo2 q s < hi2 p r := by rw [ord_gt, g1.val, g2.val]
  unfold meetE commonE
  rw [if_neg (not_not_intro (h.both k))]
  simp only [e3]
  split
  · rename_i hx
    rw [if_neg (by grind)]
    exact ⟨rfl, g1, g2, hx⟩
  · rename_i hx
    rw [if_pos (by grind)]
def withinQ (p q : Rat) (k : Nat) : Rat := p + (k : Rat) / (255 : Nat) * (q - p)
end Go.Proofs.YtdejgaiocjfhjaaGreatDoor
namespace Go.Proofs.YtdejgaiocjfhjaaGreatDoor
open Go.Lib (decDigits itoa)
theorem within_fit {p q : Rat} (hp : FitB 10 p) (hq : FitB 10 q) {k : Nat} (hk : k ≤ 255) : FitB 23 (withinQ p q k) := by
  have e : withinQ p q k = mkRat (p.num * q.den * 255 + k * (q.num * p.den - p.num * q.den)) (255 * (p.den * q.den)) := by
    rw [Rat.mkRat_eq_div]
    have h1 := num_den p
    have h2 := num_den q
    have hd : (p.den : Rat) ≠ 0 := by exact_mod_cast p.den_nz
    have hd2 : (q.den : Rat) ≠ 0 := by exact_mod_cast q.den_nz
    have e1 : ((p.num * q.den * 255 + k * (q.num * p.den - p.num * q.den) : Int) : Rat) = (p.num : Rat) * (q.den : Rat) * 255 + (k : Rat) * ((q.num : Rat) * (p.den : Rat) - (p.num : Rat) * (q.den : Rat)) := by
      push_cast; rfl
    have e2 : ((255 * (p.den * q.den) : Nat) : Rat) = 255 * ((p.den : Rat) * (q.den : Rat)) := by push_cast; rfl
    rw [e1, e2, h1, h2]
    unfold withinQ
    have e3 : ((255 : Nat) : Rat) = 255 := rfl
    rw [e3]
    grind
  rw [e]
  have h1 := pow_mul_lt hp.1 hq.2
  have h2 := pow_mul_lt hq.1 hp.2
  have h3 := pow_mul_lt hp.2 hq.2
  refine fit_mk ?_ ?_ ?_
  · exact Nat.mul_ne_zero (by omega) (Nat.mul_ne_zero p.den_nz q.den_nz)
  · have a1 := Int.natAbs_add_le (p.num * q.den * 255) (k * (q.num * p.den - p.num * q.den))
    have a2 := Int.natAbs_sub_le (q.num * p.den) (p.num * q.den)
    rw [Int.natAbs_mul (p.num * q.den), Int.natAbs_mul (k : Int)] at a1
    simp only [Int.natAbs_mul, Int.natAbs_natCast] at a1 a2
    have a3 := Nat.mul_le_mul hk a2
    generalize (q.num * p.den - p.num * q.den).natAbs = z at *
    generalize p.num.natAbs * q.den = x at *
    generalize q.num.natAbs * p.den = y at *
    have a4 := Nat.mul_le_mul hk (Nat.le_refl z)
    simp only [show (255 : Int).natAbs = 255 from rfl] at a1
    have e5 : (10 : Nat) ^ (10 + 10) = 100000000000000000000 := by decide
    have e6 : (10 : Nat) ^ 23 = 100000000000000000000000 := by decide
    rw [e5] at *
    rw [e6]
    omega
  · generalize p.den * q.den = x at *
    have e5 : (10 : Nat) ^ (10 + 10) = 100000000000000000000 := by decide
    have e6 : (10 : Nat) ^ 23 = 100000000000000000000000 := by decide
    rw [e5] at *
    rw [e6]
    omega
def withinT (a : Enc) (k : Nat) : Txt := fracT (withinQ (fracQ a.1) (fracQ a.2) k)
theorem ShortR.within {a : Enc} (h : ShortR a) {k : Nat} (hk : k ≤ 255) : Good 23 (withinT a k) (withinQ (fracQ a.1) (fracQ a.2) k) :=
  (Good.of (within_fit h.good.lo.fit h.good.hi.fit hk) (by omega)).2
end Go.Proofs.YtdejgaiocjfhjaaGreatDoor
namespace Go.Proofs.YtdejgaiocjfhjaaGreatDoor
open Go.Lib (decDigits itoa)
theorem law_meets {a b : Enc} (ha : ShortR a) (hb : ShortR b) : MeetsR a b := by
  have ga := ha.good
  have gb := hb.good
  have c1 := ga.compare gb
  have c2 := gb.compare ga
  obtain ⟨u1, u2⟩ := ga.hull gb
  have hm := ga.meet gb
  have hal := ga.le
  have hbl := gb.le
  have n1 : (compareE b a).1 = -(compareE a b).1 := by
    rw [c1, c2]
    unfold sureQ
    dsimp only
    by_cases h1 : fracQ a.2 < fracQ b.1
    · have h2 : ¬ fracQ b.2 < fracQ a.1 := by grind
      simp only [h1, h2, if_true, if_false]; rfl
    · by_cases h2 : fracQ b.2 < fracQ a.1
      · simp only [h1, h2, if_true, if_false]
      · simp only [h1, h2, if_false]; rfl
  have w1 : withinE a (hullE a b).1 = (true, 0) := by
    rw [u1]; refine ga.within u2 ?_ ?_
    · unfold lo2; grind
    · unfold hi2; grind
  have w2 : withinE b (hullE a b).1 = (true, 0) := by
    rw [u1]; refine gb.within u2 ?_ ?_
    · unfold lo2; grind
    · unfold hi2; grind
  by_cases hc : hi2 (fracQ a.1) (fracQ b.1) ≤ lo2 (fracQ a.2) (fracQ b.2)
  · rw [if_pos hc] at hm
    obtain ⟨m1, m2⟩ := hm
    have z : (compareE a b).1 = 0 := by
      rw [c1]; unfold sureQ; unfold hi2 lo2 at hc; dsimp only
      rw [if_neg (by grind), if_neg (by grind)]
    refine ⟨by rw [m1], by rw [u1], by rw [c1], by rw [c2], ?_, n1, w1, w2, ?_, ?_, by rw [u1]; exact u2.len, by rw [m1]; exact m2.len⟩
    · rw [m1, z]; rfl
    · intro _
      rw [m1]
      refine m2.within ga ?_ ?_
      · unfold hi2; grind
      · unfold lo2; grind
    · intro _
      rw [m1]
      refine m2.within gb ?_ ?_
      · unfold hi2; grind
      · unfold lo2; grind
  · rw [if_neg hc] at hm
    have z : (compareE a b).1 ≠ 0 := by
      rw [c1]; unfold sureQ; unfold hi2 lo2 at hc; dsimp only
      by_cases h1 : fracQ a.2 < fracQ b.1
      · rw [if_pos h1]; decide
      · rw [if_neg h1, if_pos (by grind)]; decide
    refine ⟨by rw [hm], by rw [u1], by rw [c1], by rw [c2], ?_, n1, w1, w2, ?_, ?_, by rw [u1]; exact u2.len, by rw [hm]; exact ⟨by simp, by simp⟩⟩
    · rw [hm, decide_eq_false z]
    · rw [hm]; intro h; cases h
    · rw [hm]; intro h; cases h
end Go.Proofs.YtdejgaiocjfhjaaGreatDoor
namespace Go.Proofs.YtdejgaiocjfhjaaGreatDoor
open Go.RowKit
def shortE (a : Enc) : Bool := decide (a.1.length ≤ 10) && decide (a.2.length ≤ 10)
set_option maxHeartbeats 4000000 in
theorem short2_any (a : Enc) (w : World) : Calls Tryz.prog 87 #[encV a] w fun e w' => e = .returned (.bool (shortE a)) ∧ Ext w w' := by
  obtain ⟨l, h⟩ := a
  have H1 := Lib.hid (fun W => rShort_any l W)
  have H2 := Lib.hid (fun W => rShort_any h W)
  unfold shortE
  dsimp only [encV] at *
  generalize decide (l.length ≤ 10) = b1 at *
  generalize decide (h.length ≤ 10) = b2 at *
  have E : Ext w (w.alloc (.cells #[txt l, txt h] 24)) := extA
  cases b1
  · go_enter Tryz.func87, Tryz.ntmps87
    go_wp2_with (go_at_call 122; refine (H1.out _).mono ?_; rintro e w' ⟨rfl, rfl⟩)
    go_ret
    exact ⟨rfl, E⟩
  · cases b2
    all_goals
      go_enter Tryz.func87, Tryz.ntmps87
      go_wp2_with fail
      refine (H1.out _).mono ?_
      clear H1
      rintro e w' ⟨rfl, hw⟩; obtain rfl := hw.symm; clear hw
      go_wp2_with fail
      refine (H2.out _).mono ?_
      rintro e w' ⟨rfl, hw⟩; obtain rfl := hw.symm; clear hw
      go_wp2_with fail
      go_ret
      exact ⟨rfl, E⟩
end Go.Proofs.YtdejgaiocjfhjaaGreatDoor
namespace Go.Proofs.YtdejgaiocjfhjaaGreatDoor
open Go.RowKit
open Go.Lib (decDigits itoa)
def okE (a : Enc) : Bool := shortE a && (encE a == 0)
theorem okE_short {a : Enc} (h : okE a = true) : ShortR a := by
  unfold okE shortE at h
  simp only [Bool.and_eq_true, decide_eq_true_eq, beq_iff_eq] at h
  exact ⟨h.2, h.1.1, h.1.2⟩
theorem all_dropE {l : List Enc} {k : Nat} (h : k < l.length) : (l.drop k).all okE = (okE (l.getD k ([], [])) && (l.drop (k + 1)).all okE) := by
  rw [List.drop_eq_getElem_cons h, getD_enc h, List.all_cons]
set_option maxHeartbeats 4000000 in
set_option maxRecDepth 100000 in
theorem lawRight_any (l : List Enc) (a : Option Addr) (cap : Nat) (w : World) (hc : CellsE w a l) (hm : l.length ≤ 1000) :
    Calls Tryz.prog 36 #[.slice a l.length cap] w fun e w' => e = .returned (.bool (l.all okE)) ∧ Ext w w' := by
  have HC := Lib.hid hc
  obtain ⟨S, hS⟩ : ∃ S, S = l.all okE := ⟨_, rfl⟩
  have HS := Lib.hid hS
  rw [← hS]
  clear hc hS
  go_enter Tryz.func36, Tryz.ntmps36
  go_wp2
  go_loopw [7] (fun i wr => ∃ k : Nat, k ≤ l.length ∧ i = .int .i64 k ∧ Hid (S = (l.drop k).all okE) ∧ Ext w wr) (fun i _ => l.length - (intOf i).toNat)
  case atStart => exact ⟨0, by omega, rfl, HS.out, Ext.refl _⟩
  case round =>
    obtain ⟨k, hk, rfl, HE, he⟩ := hrel
    by_cases hlt : k < l.length
    · have hki : (k : Int) < (l.length : Int) := by omega
      have hkw : IntKind.i64.wrap ((k : Int) + 1) = (k : Int) + 1 := by rw [IntKind.wrap_i64]; omega
      obtain ⟨b, off, ha, hc1, hc2⟩ := HC.out.ext he k hlt
      subst ha
      have hst := HE.out.trans (all_dropE hlt)
      generalize l.getD k ([], []) = x at hc1 hc2 hst
      have H1 := Lib.hid (fun W => short2_any x W)
      have H2 : Hid (shortE x = true → ∀ W, Calls Tryz.prog 45 #[encV x] W fun e w' => e = .returned (.int .i64 (encE x : Nat)) ∧ Ext W w') := fun h W => rCheck2_any x W (by
        unfold shortE at h
        simp only [Bool.and_eq_true, decide_eq_true_eq] at h
        exact ⟨by omega, by omega⟩)
      unfold okE at hst
      generalize shortE x = sh at *
      generalize encE x = n at *
      obtain ⟨x1, x2⟩ := x
      dsimp only [encV] at hc1 hc2 H1 H2
      have P := encAt_new wr wr.heap.size rfl x1 x2 24
      have EA : Ext wr (wr.alloc (.cells #[txt x1, txt x2] 24)) := extA
      have E := he.trans EA
      clear EA HE
      cases sh
      · have HR : Hid (S = false) := by show _ = _; rw [hst]; rfl
        clear hst
        go_wp2_with fail
        refine (H1.out _).mono ?_
        rintro e w1 ⟨rfl, hE⟩
        replace E := E.trans hE
        go_wp2_with fail
        go_ret
        exact ⟨by rw [HR.out]; rfl, E⟩
      · have H2b : Hid (∀ W, Calls Tryz.prog 45 #[.agg #[txt x1, txt x2]] W fun e w' => e = .returned (.int .i64 (n : Nat)) ∧ Ext W w') := H2.out rfl
        clear H2
        go_wp2_with fail
        generalize (wr.alloc (.cells #[txt x1, txt x2] 24)) = wb at P E ⊢
        obtain ⟨nb, hnb⟩ : ∃ nb, nb = wr.heap.size := ⟨_, rfl⟩
        rw [← hnb] at P ⊢
        clear hnb hc1 hc2
        refine (H1.out _).mono ?_
        clear H1
        rintro e w1 ⟨rfl, hE⟩
        replace E := E.trans hE
        obtain ⟨p0, p1, _, _⟩ := P.ext hE
        clear hE P
        go_wp2_with fail
        refine (H2b.out _).mono ?_
        clear H2b p0 p1
        rintro e w2 ⟨rfl, hE⟩
        replace E := E.trans hE
        clear hE
        by_cases hn : n = 0
        · subst hn
          have HE2 : Hid (S = (l.drop (k + 1)).all okE) := by show _ = _; rw [hst]; rfl
          have hne : (((0 : Nat) : Int) != 0) = false := rfl
          clear hst
          go_wp2
          refine ⟨⟨k + 1, by omega, by go_num, HE2, E⟩, by simp [intOf]; omega⟩
        · have hne : (((n : Nat) : Int) != 0) = true := by rw [bne_iff_ne]; omega
          have hb : (n == 0) = false := by rw [beq_eq_false_iff_ne]; exact hn
          have HR : Hid (S = false) := by show _ = _; rw [hst, hb]; rfl
          clear hst hb
          go_wp2
          go_ret
          exact ⟨by rw [HR.out]; rfl, E⟩
    · have hki : ¬ (k : Int) < (l.length : Int) := by omega
      have HR : Hid (S = true) := by show _ = _; rw [HE.out, List.drop_eq_nil_of_le (by omega)]; rfl
      clear HE
      go_wp2
      go_ret
      exact ⟨by rw [HR.out]; rfl, he⟩
theorem right_two (a b : Enc) (W : World) (t : TypeId) (n : Nat) (v : World) (hn : n = v.heap.size) (hW : W = v.alloc (.cells #[txt a.1, txt a.2, txt b.1, txt b.2] t)) :
    Calls Tryz.prog 36 #[.slice (some ⟨n, 0, none⟩) 2 2] W fun e w' => e = .returned (.bool (okE a && okE b)) ∧ Ext W w' := by
  subst hn
  have k := lawRight_any [a, b] (some ⟨v.heap.size, 0, none⟩) 2 W (by rw [hW]; exact pair_enc v a b _) (by simp)
  have e : [a, b].all okE = (okE a && okE b) := by simp
  rw [e] at k
  exact k
end Go.Proofs.YtdejgaiocjfhjaaGreatDoor
namespace Go.Proofs.YtdejgaiocjfhjaaGreatDoor
open Go.RowKit
theorem sure_bd (p q r s : Rat) : -1 ≤ sureQ p q r s ∧ sureQ p q r s ≤ 1 := by unfold sureQ; split <;> first | (split <;> decide) | decide
structure MeetsD (a b : Enc) (c1 c2 h1 h2 : Txt) (ok : Bool) (n : Int) : Prop where
  m : meetE a b = ((c1, c2), ok, 0)
  h : hullE a b = ((h1, h2), 0)
  x : compareE a b = (n, 0)
  y : compareE b a = (-n, 0)
  k : ok = decide (n = 0)
  lo : -1 ≤ n
  hi : n ≤ 1
  wa : withinE a (h1, h2) = (true, 0)
  wb : withinE b (h1, h2) = (true, 0)
  ca : ok = true → withinE (c1, c2) a = (true, 0)
  cb : ok = true → withinE (c1, c2) b = (true, 0)
  lh : LenE (h1, h2)
  lc : LenE (c1, c2)
theorem meets_data {a b : Enc} (ha : ShortR a) (hb : ShortR b) : ∃ c1 c2 h1 h2 ok n, MeetsD a b c1 c2 h1 h2 ok n := by
  have M := law_meets ha hb
  have c := ha.good.compare hb.good
  refine ⟨(meetE a b).1.1, (meetE a b).1.2, (hullE a b).1.1, (hullE a b).1.2, (meetE a b).2.1, (compareE a b).1, ?_, ?_, ?_, ?_, M.ok, ?_, ?_, M.ha, M.hb, M.ca, M.cb, M.lh, M.lm⟩
  · rw [← M.e]
  · rw [← M.f]
  · rw [← M.g]
  · rw [← M.n, ← M.i]
  · rw [c]; exact (sure_bd _ _ _ _).1
  · rw [c]; exact (sure_bd _ _ _ _).2
set_option maxHeartbeats 16000000 in
set_option maxRecDepth 100000 in
theorem lawMeets_any (a b : Enc) (w : World) (hG : Glob w) : Calls Tryz.prog 6 #[encV a, encV b] w (TrueP w) := by
  have HG := Lib.hid hG
  clear hG
  have HA : Hid (∀ W, Ext w W → Calls Tryz.prog 15 #[] W fun e w' => e = .returned (.bool true) ∧ Ext W w') := fun W h => awake2_any W (HG.out.ext h)
  have HRT := Lib.hid (fun W v n hn hW => right_two a b W 24 n v hn hW)
  unfold TrueP
  cases hok : (okE a && okE b)
  · rw [hok] at HRT
    obtain ⟨l, h⟩ := a
    obtain ⟨m, k⟩ := b
    dsimp only [encV] at HRT ⊢
    clear hok HG
    have A : EncAt (w.heap.size) (((w.alloc (.cells #[txt l, txt h] 24)).alloc (.cells #[txt m, txt k] 24)).alloc (.cells #[txt l, txt h, txt m, txt k] 24)) l h := ⟨by go_simp, by go_simp, by go_simp, by go_simp⟩
    have B : EncAt (w.heap.size + 1) (((w.alloc (.cells #[txt l, txt h] 24)).alloc (.cells #[txt m, txt k] 24)).alloc (.cells #[txt l, txt h, txt m, txt k] 24)) m k := ⟨by go_simp, by go_simp, by go_simp, by go_simp⟩
    have S : FourAt (w.heap.size + 1 + 1) (((w.alloc (.cells #[txt l, txt h] 24)).alloc (.cells #[txt m, txt k] 24)).alloc (.cells #[txt l, txt h, txt m, txt k] 24)) l h m k := ⟨by go_simp, by go_simp, by go_simp, by go_simp, by go_simp, by go_simp, by go_simp, by go_simp⟩
    have E : Ext w (((w.alloc (.cells #[txt l, txt h] 24)).alloc (.cells #[txt m, txt k] 24)).alloc (.cells #[txt l, txt h, txt m, txt k] 24)) := extA
    go_enter Tryz.func6, Tryz.ntmps6
    go_wp2_with fail
    generalize hQ : (((w.alloc (.cells #[txt l, txt h] 24)).alloc (.cells #[txt m, txt k] 24)).alloc (.cells #[txt l, txt h, txt m, txt k] 24)) = w0 at A B S E ⊢
    have HR1 := HRT.out w0 ((w.alloc (.cells #[txt l, txt h] 24)).alloc (.cells #[txt m, txt k] 24)) (w.heap.size + 1 + 1) (by simp) hQ.symm
    clear HRT hQ
    refine (HR1).mono ?_
    clear HR1
    rintro e w1 ⟨rfl, hE⟩
    replace E := E.trans hE
    replace A := A.ext hE
    replace B := B.ext hE
    replace S := S.ext hE
    clear hE
    clear S
    have A' := A
    have B' := B
    obtain ⟨A0, A1, A2, A3⟩ := A
    have zA := cell_lt A0
    dsimp only at zA
    obtain ⟨B0, B1, B2, B3⟩ := B
    have zB := cell_lt B0
    dsimp only at zB
    go_wp2_with fail
    clear A0 A1 A2 A3 zA B0 B1 B2 B3 zB
    have A := A'
    clear A'
    have B := B'
    clear B'
    refine (HA.out _ E).mono ?_
    rintro e w2 ⟨rfl, hE⟩
    replace E := E.trans hE
    replace A := A.ext hE
    replace B := B.ext hE
    clear hE
    go_wp2_with fail
    go_ret
    exact ⟨rfl, E⟩
  rw [hok] at HRT
  obtain ⟨oa, ob⟩ := Bool.and_eq_true_iff.1 hok
  have ha := okE_short oa
  have hb := okE_short ob
  clear hok oa ob
  obtain ⟨c1, c2, h1, h2, ok, n, D⟩ := meets_data ha hb
  have hl := ha.good.len
  have hm := hb.good.len
  have X0 : Hid (∀ W, Ext w W → Calls Tryz.prog 28 #[encV a, encV b] W (MeetP ((c1, c2), ok, 0) W)) := fun W g => by rw [← D.m]; exact eMeet_any a b W (HG.out.ext g) hl hm
  have X1 : Hid (∀ W, Ext w W → Calls Tryz.prog 30 #[encV a, encV b] W (EncP ((h1, h2), 0) W)) := fun W g => by rw [← D.h]; exact eHull_any a b W (HG.out.ext g) hl hm
  have X2 : Hid (∀ W, Ext w W → Calls Tryz.prog 34 #[encV a, encV b] W (IntP n 0 W)) := fun W g => by have q := eCompare_any a b W (HG.out.ext g) hl hm; rw [D.x] at q; exact q
  have X3 : Hid (∀ W, Ext w W → Calls Tryz.prog 34 #[encV b, encV a] W (IntP (-n) 0 W)) := fun W g => by have q := eCompare_any b a W (HG.out.ext g) hm hl; rw [D.y] at q; exact q
  have X4 : Hid (∀ W, Ext w W → Calls Tryz.prog 32 #[encV a, encV (h1, h2)] W (BoolP true 0 W)) := fun W g => by have q := eWithin_any a (h1, h2) W (HG.out.ext g) hl D.lh; rw [D.wa] at q; exact q
  have X5 : Hid (∀ W, Ext w W → Calls Tryz.prog 32 #[encV b, encV (h1, h2)] W (BoolP true 0 W)) := fun W g => by have q := eWithin_any b (h1, h2) W (HG.out.ext g) hm D.lh; rw [D.wb] at q; exact q
  have X6 : Hid (ok = true → ∀ W, Ext w W → Calls Tryz.prog 32 #[encV (c1, c2), encV a] W (BoolP true 0 W)) := fun ho W g => by have q := eWithin_any (c1, c2) a W (HG.out.ext g) D.lc hl; rw [D.ca ho] at q; exact q
  have X7 : Hid (ok = true → ∀ W, Ext w W → Calls Tryz.prog 32 #[encV (c1, c2), encV b] W (BoolP true 0 W)) := fun ho W g => by have q := eWithin_any (c1, c2) b W (HG.out.ext g) D.lc hm; rw [D.cb ho] at q; exact q
  unfold MeetP at X0
  unfold EncP at X1
  unfold IntP at X2 X3
  unfold BoolP at X4 X5 X6 X7
  have hk := D.k
  have hnw : IntKind.i64.wrap (-n) = -n := by have := D.lo; have := D.hi; rw [IntKind.wrap_i64]; omega
  have hw0 : IntKind.i64.wrap 0 = 0 := by decide
  obtain ⟨l, h⟩ := a
  obtain ⟨m, k⟩ := b
  dsimp only [encV] at HRT X0 X1 X2 X3 X4 X5 X6 X7 ⊢
  clear ha hb hl hm D HG
  have A : EncAt (w.heap.size) (((w.alloc (.cells #[txt l, txt h] 24)).alloc (.cells #[txt m, txt k] 24)).alloc (.cells #[txt l, txt h, txt m, txt k] 24)) l h := ⟨by go_simp, by go_simp, by go_simp, by go_simp⟩
  have B : EncAt (w.heap.size + 1) (((w.alloc (.cells #[txt l, txt h] 24)).alloc (.cells #[txt m, txt k] 24)).alloc (.cells #[txt l, txt h, txt m, txt k] 24)) m k := ⟨by go_simp, by go_simp, by go_simp, by go_simp⟩
  have S : FourAt (w.heap.size + 1 + 1) (((w.alloc (.cells #[txt l, txt h] 24)).alloc (.cells #[txt m, txt k] 24)).alloc (.cells #[txt l, txt h, txt m, txt k] 24)) l h m k := ⟨by go_simp, by go_simp, by go_simp, by go_simp, by go_simp, by go_simp, by go_simp, by go_simp⟩
  have E : Ext w (((w.alloc (.cells #[txt l, txt h] 24)).alloc (.cells #[txt m, txt k] 24)).alloc (.cells #[txt l, txt h, txt m, txt k] 24)) := extA
  go_enter Tryz.func6, Tryz.ntmps6
  go_wp2_with fail
  generalize hQ : (((w.alloc (.cells #[txt l, txt h] 24)).alloc (.cells #[txt m, txt k] 24)).alloc (.cells #[txt l, txt h, txt m, txt k] 24)) = w0 at A B S E ⊢
  have HR1 := HRT.out w0 ((w.alloc (.cells #[txt l, txt h] 24)).alloc (.cells #[txt m, txt k] 24)) (w.heap.size + 1 + 1) (by simp) hQ.symm
  clear HRT hQ
  refine (HR1).mono ?_
  clear HR1
  rintro e w1 ⟨rfl, hE⟩
  replace E := E.trans hE
  replace A := A.ext hE
  replace B := B.ext hE
  replace S := S.ext hE
  clear hE
  clear S
  have A' := A
  have B' := B
  obtain ⟨A0, A1, A2, A3⟩ := A
  have zA := cell_lt A0
  dsimp only at zA
  obtain ⟨B0, B1, B2, B3⟩ := B
  have zB := cell_lt B0
  dsimp only at zB
  go_wp2_with fail
  clear A0 A1 A2 A3 zA B0 B1 B2 B3 zB
  have A := A'
  clear A'
  have B := B'
  clear B'
  refine (X0.out _ E).mono ?_
  clear X0
  rintro e w2 ⟨rfl, hE⟩
  replace E := E.trans hE
  replace A := A.ext hE
  replace B := B.ext hE
  clear hE
  have A' := A
  have B' := B
  obtain ⟨A0, A1, A2, A3⟩ := A
  have zA := cell_lt A0
  dsimp only at zA
  obtain ⟨B0, B1, B2, B3⟩ := B
  have zB := cell_lt B0
  dsimp only at zB
  have C : EncAt (w2.heap.size) (w2.alloc (.cells #[txt c1, txt c2] 24)) c1 c2 := ⟨by go_simp, by go_simp, by go_simp, by go_simp⟩
  have EA : Ext w2 (w2.alloc (.cells #[txt c1, txt c2] 24)) := extA
  replace A' := A'.ext EA
  replace B' := B'.ext EA
  replace E := E.trans EA
  clear EA
  go_wp2_with fail
  clear A0 A1 A2 A3 zA B0 B1 B2 B3 zB
  have A := A'
  clear A'
  have B := B'
  clear B'
  obtain ⟨bC, hbC⟩ : ∃ b, b = w2.heap.size := ⟨_, rfl⟩
  rw [← hbC] at C  ⊢
  generalize (w2.alloc (.cells #[txt c1, txt c2] 24)) = w3 at A B C E ⊢
  clear hbC
  refine (X1.out _ E).mono ?_
  clear X1
  rintro e w4 ⟨rfl, hE⟩
  replace E := E.trans hE
  replace A := A.ext hE
  replace B := B.ext hE
  replace C := C.ext hE
  clear hE
  have A' := A
  have B' := B
  have C' := C
  obtain ⟨A0, A1, A2, A3⟩ := A
  have zA := cell_lt A0
  dsimp only at zA
  obtain ⟨B0, B1, B2, B3⟩ := B
  have zB := cell_lt B0
  dsimp only at zB
  obtain ⟨C0, C1, C2, C3⟩ := C
  have zC := cell_lt C0
  dsimp only at zC
  have H : EncAt (w4.heap.size) (w4.alloc (.cells #[txt h1, txt h2] 24)) h1 h2 := ⟨by go_simp, by go_simp, by go_simp, by go_simp⟩
  have EA : Ext w4 (w4.alloc (.cells #[txt h1, txt h2] 24)) := extA
  replace A' := A'.ext EA
  replace B' := B'.ext EA
  replace C' := C'.ext EA
  replace E := E.trans EA
  clear EA
  go_wp2_with fail
  clear A0 A1 A2 A3 zA B0 B1 B2 B3 zB C0 C1 C2 C3 zC
  have A := A'
  clear A'
  have B := B'
  clear B'
  have C := C'
  clear C'
  obtain ⟨bH, hbH⟩ : ∃ b, b = w4.heap.size := ⟨_, rfl⟩
  rw [← hbH] at H  ⊢
  generalize (w4.alloc (.cells #[txt h1, txt h2] 24)) = w5 at A B C H E ⊢
  clear hbH
  refine (X2.out _ E).mono ?_
  clear X2
  rintro e w6 ⟨rfl, hE⟩
  replace E := E.trans hE
  replace A := A.ext hE
  replace B := B.ext hE
  replace C := C.ext hE
  replace H := H.ext hE
  clear hE
  have A' := A
  have B' := B
  have C' := C
  have H' := H
  obtain ⟨A0, A1, A2, A3⟩ := A
  have zA := cell_lt A0
  dsimp only at zA
  obtain ⟨B0, B1, B2, B3⟩ := B
  have zB := cell_lt B0
  dsimp only at zB
  obtain ⟨C0, C1, C2, C3⟩ := C
  have zC := cell_lt C0
  dsimp only at zC
  obtain ⟨H0, H1, H2, H3⟩ := H
  have zH := cell_lt H0
  dsimp only at zH
  go_wp2_with fail
  clear A0 A1 A2 A3 zA B0 B1 B2 B3 zB C0 C1 C2 C3 zC H0 H1 H2 H3 zH
  have A := A'
  clear A'
  have B := B'
  clear B'
  have C := C'
  clear C'
  have H := H'
  clear H'
  refine (X3.out _ E).mono ?_
  clear X3
  rintro e w7 ⟨rfl, hE⟩
  replace E := E.trans hE
  replace A := A.ext hE
  replace B := B.ext hE
  replace C := C.ext hE
  replace H := H.ext hE
  clear hE
  by_cases hn : n = 0
  · subst hn
    have hok : ok = true := by rw [hk]; rfl
    subst hok
    have X6b : Hid (∀ W, Ext w W → Calls Tryz.prog 32 #[.agg #[txt c1, txt c2], .agg #[txt l, txt h]] W fun e w' => e = .returned (.tuple #[.bool true, .int .i64 (0 : Nat)]) ∧ Ext W w') := X6.out rfl
    have X7b : Hid (∀ W, Ext w W → Calls Tryz.prog 32 #[.agg #[txt c1, txt c2], .agg #[txt m, txt k]] W fun e w' => e = .returned (.tuple #[.bool true, .int .i64 (0 : Nat)]) ∧ Ext W w') := X7.out rfl
    clear hk hnw X6 X7
    have A' := A
    have B' := B
    have C' := C
    have H' := H
    obtain ⟨A0, A1, A2, A3⟩ := A
    have zA := cell_lt A0
    dsimp only at zA
    obtain ⟨B0, B1, B2, B3⟩ := B
    have zB := cell_lt B0
    dsimp only at zB
    obtain ⟨C0, C1, C2, C3⟩ := C
    have zC := cell_lt C0
    dsimp only at zC
    obtain ⟨H0, H1, H2, H3⟩ := H
    have zH := cell_lt H0
    dsimp only at zH
    have S : FourAt (w7.heap.size) (w7.alloc (.cells #[txt l, txt h, txt m, txt k] 24)) l h m k := ⟨by go_simp, by go_simp, by go_simp, by go_simp, by go_simp, by go_simp, by go_simp, by go_simp⟩
    have EA : Ext w7 (w7.alloc (.cells #[txt l, txt h, txt m, txt k] 24)) := extA
    replace A' := A'.ext EA
    replace B' := B'.ext EA
    replace C' := C'.ext EA
    replace H' := H'.ext EA
    replace E := E.trans EA
    clear EA
    go_wp2
    clear A0 A1 A2 A3 zA B0 B1 B2 B3 zB C0 C1 C2 C3 zC H0 H1 H2 H3 zH
    have A := A'
    clear A'
    have B := B'
    clear B'
    have C := C'
    clear C'
    have H := H'
    clear H'
    obtain ⟨bS, hbS⟩ : ∃ b, b = w7.heap.size := ⟨_, rfl⟩
    rw [← hbS] at S  ⊢
    generalize (w7.alloc (.cells #[txt l, txt h, txt m, txt k] 24)) = w8 at A B C H S E ⊢
    clear hbS
    refine wp_loop_rounds 3 ?_
    rw [rounds_succ]
    have A' := A
    have B' := B
    have C' := C
    have H' := H
    have S' := S
    obtain ⟨A0, A1, A2, A3⟩ := A
    have zA := cell_lt A0
    dsimp only at zA
    obtain ⟨B0, B1, B2, B3⟩ := B
    have zB := cell_lt B0
    dsimp only at zB
    obtain ⟨C0, C1, C2, C3⟩ := C
    have zC := cell_lt C0
    dsimp only at zC
    obtain ⟨H0, H1, H2, H3⟩ := H
    have zH := cell_lt H0
    dsimp only at zH
    obtain ⟨S0, S1, S2, S3, S4, S5, S6, S7⟩ := S
    have zS := cell_lt S0
    dsimp only at zS
    have P0 : EncAt (w8.heap.size) (w8.alloc (.cells #[txt l, txt h] 24)) l h := ⟨by go_simp, by go_simp, by go_simp, by go_simp⟩
    have EA : Ext w8 (w8.alloc (.cells #[txt l, txt h] 24)) := extA
    replace A' := A'.ext EA
    replace B' := B'.ext EA
    replace C' := C'.ext EA
    replace H' := H'.ext EA
    replace S' := S'.ext EA
    replace E := E.trans EA
    clear EA
    go_wp2_with fail
    clear A0 A1 A2 A3 zA B0 B1 B2 B3 zB C0 C1 C2 C3 zC H0 H1 H2 H3 zH S0 S1 S2 S3 S4 S5 S6 S7 zS
    have A := A'
    clear A'
    have B := B'
    clear B'
    have C := C'
    clear C'
    have H := H'
    clear H'
    have S := S'
    clear S'
    obtain ⟨bP0, hbP0⟩ : ∃ b, b = w8.heap.size := ⟨_, rfl⟩
    rw [← hbP0] at P0  ⊢
    generalize (w8.alloc (.cells #[txt l, txt h] 24)) = w9 at A B C H S P0 E ⊢
    clear hbP0
    refine (X4.out _ E).mono ?_
    clear X4
    rintro e w10 ⟨rfl, hE⟩
    replace E := E.trans hE
    replace A := A.ext hE
    replace B := B.ext hE
    replace C := C.ext hE
    replace H := H.ext hE
    replace S := S.ext hE
    replace P0 := P0.ext hE
    clear hE
    have A' := A
    have B' := B
    have C' := C
    have H' := H
    have S' := S
    have P0' := P0
    obtain ⟨A0, A1, A2, A3⟩ := A
    have zA := cell_lt A0
    dsimp only at zA
    obtain ⟨B0, B1, B2, B3⟩ := B
    have zB := cell_lt B0
    dsimp only at zB
    obtain ⟨C0, C1, C2, C3⟩ := C
    have zC := cell_lt C0
    dsimp only at zC
    obtain ⟨H0, H1, H2, H3⟩ := H
    have zH := cell_lt H0
    dsimp only at zH
    obtain ⟨S0, S1, S2, S3, S4, S5, S6, S7⟩ := S
    have zS := cell_lt S0
    dsimp only at zS
    obtain ⟨P00, P01, P02, P03⟩ := P0
    have zP0 := cell_lt P00
    dsimp only at zP0
    go_wp2_with fail
    clear A0 A1 A2 A3 zA B0 B1 B2 B3 zB C0 C1 C2 C3 zC H0 H1 H2 H3 zH S0 S1 S2 S3 S4 S5 S6 S7 zS P00 P01 P02 P03 zP0
    have A := A'
    clear A'
    have B := B'
    clear B'
    have C := C'
    clear C'
    have H := H'
    clear H'
    have S := S'
    clear S'
    have P0 := P0'
    clear P0'
    refine (X6b.out _ E).mono ?_
    clear X6b
    rintro e w11 ⟨rfl, hE⟩
    replace E := E.trans hE
    replace A := A.ext hE
    replace B := B.ext hE
    replace C := C.ext hE
    replace H := H.ext hE
    replace S := S.ext hE
    replace P0 := P0.ext hE
    clear hE
    have A' := A
    have B' := B
    have C' := C
    have H' := H
    have S' := S
    have P0' := P0
    obtain ⟨A0, A1, A2, A3⟩ := A
    have zA := cell_lt A0
    dsimp only at zA
    obtain ⟨B0, B1, B2, B3⟩ := B
    have zB := cell_lt B0
    dsimp only at zB
    obtain ⟨C0, C1, C2, C3⟩ := C
    have zC := cell_lt C0
    dsimp only at zC
    obtain ⟨H0, H1, H2, H3⟩ := H
    have zH := cell_lt H0
    dsimp only at zH
    obtain ⟨S0, S1, S2, S3, S4, S5, S6, S7⟩ := S
    have zS := cell_lt S0
    dsimp only at zS
    obtain ⟨P00, P01, P02, P03⟩ := P0
    have zP0 := cell_lt P00
    dsimp only at zP0
    go_wp2_with fail
    clear A0 A1 A2 A3 zA B0 B1 B2 B3 zB C0 C1 C2 C3 zC H0 H1 H2 H3 zH S0 S1 S2 S3 S4 S5 S6 S7 zS P00 P01 P02 P03 zP0
    have A := A'
    clear A'
    have B := B'
    clear B'
    have C := C'
    clear C'
    have H := H'
    clear H'
    have S := S'
    clear S'
    have P0 := P0'
    clear P0'
    clear P0
    rw [rounds_succ]
    have A' := A
    have B' := B
    have C' := C
    have H' := H
    have S' := S
    obtain ⟨A0, A1, A2, A3⟩ := A
    have zA := cell_lt A0
    dsimp only at zA
    obtain ⟨B0, B1, B2, B3⟩ := B
    have zB := cell_lt B0
    dsimp only at zB
    obtain ⟨C0, C1, C2, C3⟩ := C
    have zC := cell_lt C0
    dsimp only at zC
    obtain ⟨H0, H1, H2, H3⟩ := H
    have zH := cell_lt H0
    dsimp only at zH
    obtain ⟨S0, S1, S2, S3, S4, S5, S6, S7⟩ := S
    have zS := cell_lt S0
    dsimp only at zS
    have P1 : EncAt (w11.heap.size) (w11.alloc (.cells #[txt m, txt k] 24)) m k := ⟨by go_simp, by go_simp, by go_simp, by go_simp⟩
    have EA : Ext w11 (w11.alloc (.cells #[txt m, txt k] 24)) := extA
    replace A' := A'.ext EA
    replace B' := B'.ext EA
    replace C' := C'.ext EA
    replace H' := H'.ext EA
    replace S' := S'.ext EA
    replace E := E.trans EA
    clear EA
    go_wp2_with fail
    clear A0 A1 A2 A3 zA B0 B1 B2 B3 zB C0 C1 C2 C3 zC H0 H1 H2 H3 zH S0 S1 S2 S3 S4 S5 S6 S7 zS
    have A := A'
    clear A'
    have B := B'
    clear B'
    have C := C'
    clear C'
    have H := H'
    clear H'
    have S := S'
    clear S'
    obtain ⟨bP1, hbP1⟩ : ∃ b, b = w11.heap.size := ⟨_, rfl⟩
    rw [← hbP1] at P1  ⊢
    generalize (w11.alloc (.cells #[txt m, txt k] 24)) = w12 at A B C H S P1 E ⊢
    clear hbP1
    refine (X5.out _ E).mono ?_
    clear X5
    rintro e w13 ⟨rfl, hE⟩
    replace E := E.trans hE
    replace A := A.ext hE
    replace B := B.ext hE
    replace C := C.ext hE
    replace H := H.ext hE
    replace S := S.ext hE
    replace P1 := P1.ext hE
    clear hE
    have A' := A
    have B' := B
    have C' := C
    have H' := H
    have S' := S
    have P1' := P1
    obtain ⟨A0, A1, A2, A3⟩ := A
    have zA := cell_lt A0
    dsimp only at zA
    obtain ⟨B0, B1, B2, B3⟩ := B
    have zB := cell_lt B0
    dsimp only at zB
    obtain ⟨C0, C1, C2, C3⟩ := C
    have zC := cell_lt C0
    dsimp only at zC
    obtain ⟨H0, H1, H2, H3⟩ := H
    have zH := cell_lt H0
    dsimp only at zH
    obtain ⟨S0, S1, S2, S3, S4, S5, S6, S7⟩ := S
    have zS := cell_lt S0
    dsimp only at zS
    obtain ⟨P10, P11, P12, P13⟩ := P1
    have zP1 := cell_lt P10
    dsimp only at zP1
    go_wp2_with fail
    clear A0 A1 A2 A3 zA B0 B1 B2 B3 zB C0 C1 C2 C3 zC H0 H1 H2 H3 zH S0 S1 S2 S3 S4 S5 S6 S7 zS P10 P11 P12 P13 zP1
    have A := A'
    clear A'
    have B := B'
    clear B'
    have C := C'
    clear C'
    have H := H'
    clear H'
    have S := S'
    clear S'
    have P1 := P1'
    clear P1'
    refine (X7b.out _ E).mono ?_
    clear X7b
    rintro e w14 ⟨rfl, hE⟩
    replace E := E.trans hE
    replace A := A.ext hE
    replace B := B.ext hE
    replace C := C.ext hE
    replace H := H.ext hE
    replace S := S.ext hE
    replace P1 := P1.ext hE
    clear hE
    have A' := A
    have B' := B
    have C' := C
    have H' := H
    have S' := S
    have P1' := P1
    obtain ⟨A0, A1, A2, A3⟩ := A
    have zA := cell_lt A0
    dsimp only at zA
    obtain ⟨B0, B1, B2, B3⟩ := B
    have zB := cell_lt B0
    dsimp only at zB
    obtain ⟨C0, C1, C2, C3⟩ := C
    have zC := cell_lt C0
    dsimp only at zC
    obtain ⟨H0, H1, H2, H3⟩ := H
    have zH := cell_lt H0
    dsimp only at zH
    obtain ⟨S0, S1, S2, S3, S4, S5, S6, S7⟩ := S
    have zS := cell_lt S0
    dsimp only at zS
    obtain ⟨P10, P11, P12, P13⟩ := P1
    have zP1 := cell_lt P10
    dsimp only at zP1
    go_wp2_with fail
    clear A0 A1 A2 A3 zA B0 B1 B2 B3 zB C0 C1 C2 C3 zC H0 H1 H2 H3 zH S0 S1 S2 S3 S4 S5 S6 S7 zS P10 P11 P12 P13 zP1
    have A := A'
    clear A'
    have B := B'
    clear B'
    have C := C'
    clear C'
    have H := H'
    clear H'
    have S := S'
    clear S'
    have P1 := P1'
    clear P1'
    clear P1
    rw [rounds_succ]
    have A' := A
    have B' := B
    have C' := C
    have H' := H
    have S' := S
    obtain ⟨A0, A1, A2, A3⟩ := A
    have zA := cell_lt A0
    dsimp only at zA
    obtain ⟨B0, B1, B2, B3⟩ := B
    have zB := cell_lt B0
    dsimp only at zB
    obtain ⟨C0, C1, C2, C3⟩ := C
    have zC := cell_lt C0
    dsimp only at zC
    obtain ⟨H0, H1, H2, H3⟩ := H
    have zH := cell_lt H0
    dsimp only at zH
    obtain ⟨S0, S1, S2, S3, S4, S5, S6, S7⟩ := S
    have zS := cell_lt S0
    dsimp only at zS
    go_wp2_with fail
    clear A0 A1 A2 A3 zA B0 B1 B2 B3 zB C0 C1 C2 C3 zC H0 H1 H2 H3 zH S0 S1 S2 S3 S4 S5 S6 S7 zS
    have A := A'
    clear A'
    have B := B'
    clear B'
    have C := C'
    clear C'
    have H := H'
    clear H'
    have S := S'
    clear S'
    refine (HA.out _ E).mono ?_
    rintro e w15 ⟨rfl, hE⟩
    replace E := E.trans hE
    replace A := A.ext hE
    replace B := B.ext hE
    replace C := C.ext hE
    replace H := H.ext hE
    replace S := S.ext hE
    clear hE
    go_wp2_with fail
    go_ret
    exact ⟨rfl, E⟩
  · have hok : ok = false := by rw [hk, decide_eq_false hn]
    subst hok
    have hn0 : (n == 0) = false := by rw [beq_eq_false_iff_ne]; exact hn
    clear hk X6 X7
    have A' := A
    have B' := B
    have C' := C
    have H' := H
    obtain ⟨A0, A1, A2, A3⟩ := A
    have zA := cell_lt A0
    dsimp only at zA
    obtain ⟨B0, B1, B2, B3⟩ := B
    have zB := cell_lt B0
    dsimp only at zB
    obtain ⟨C0, C1, C2, C3⟩ := C
    have zC := cell_lt C0
    dsimp only at zC
    obtain ⟨H0, H1, H2, H3⟩ := H
    have zH := cell_lt H0
    dsimp only at zH
    have S : FourAt (w7.heap.size) (w7.alloc (.cells #[txt l, txt h, txt m, txt k] 24)) l h m k := ⟨by go_simp, by go_simp, by go_simp, by go_simp, by go_simp, by go_simp, by go_simp, by go_simp⟩
    have EA : Ext w7 (w7.alloc (.cells #[txt l, txt h, txt m, txt k] 24)) := extA
    replace A' := A'.ext EA
    replace B' := B'.ext EA
    replace C' := C'.ext EA
    replace H' := H'.ext EA
    replace E := E.trans EA
    clear EA
    go_wp2
    clear A0 A1 A2 A3 zA B0 B1 B2 B3 zB C0 C1 C2 C3 zC H0 H1 H2 H3 zH
    have A := A'
    clear A'
    have B := B'
    clear B'
    have C := C'
    clear C'
    have H := H'
    clear H'
    obtain ⟨bS, hbS⟩ : ∃ b, b = w7.heap.size := ⟨_, rfl⟩
    rw [← hbS] at S  ⊢
    generalize (w7.alloc (.cells #[txt l, txt h, txt m, txt k] 24)) = w8 at A B C H S E ⊢
    clear hbS
    refine wp_loop_rounds 3 ?_
    rw [rounds_succ]
    have A' := A
    have B' := B
    have C' := C
    have H' := H
    have S' := S
    obtain ⟨A0, A1, A2, A3⟩ := A
    have zA := cell_lt A0
    dsimp only at zA
    obtain ⟨B0, B1, B2, B3⟩ := B
    have zB := cell_lt B0
    dsimp only at zB
    obtain ⟨C0, C1, C2, C3⟩ := C
    have zC := cell_lt C0
    dsimp only at zC
    obtain ⟨H0, H1, H2, H3⟩ := H
    have zH := cell_lt H0
    dsimp only at zH
    obtain ⟨S0, S1, S2, S3, S4, S5, S6, S7⟩ := S
    have zS := cell_lt S0
    dsimp only at zS
    have P0 : EncAt (w8.heap.size) (w8.alloc (.cells #[txt l, txt h] 24)) l h := ⟨by go_simp, by go_simp, by go_simp, by go_simp⟩
    have EA : Ext w8 (w8.alloc (.cells #[txt l, txt h] 24)) := extA
    replace A' := A'.ext EA
    replace B' := B'.ext EA
    replace C' := C'.ext EA
    replace H' := H'.ext EA
    replace S' := S'.ext EA
    replace E := E.trans EA
    clear EA
    go_wp2_with fail
    clear A0 A1 A2 A3 zA B0 B1 B2 B3 zB C0 C1 C2 C3 zC H0 H1 H2 H3 zH S0 S1 S2 S3 S4 S5 S6 S7 zS
    have A := A'
    clear A'
    have B := B'
    clear B'
    have C := C'
    clear C'
    have H := H'
    clear H'
    have S := S'
    clear S'
    obtain ⟨bP0, hbP0⟩ : ∃ b, b = w8.heap.size := ⟨_, rfl⟩
    rw [← hbP0] at P0  ⊢
    generalize (w8.alloc (.cells #[txt l, txt h] 24)) = w9 at A B C H S P0 E ⊢
    clear hbP0
    refine (X4.out _ E).mono ?_
    clear X4
    rintro e w10 ⟨rfl, hE⟩
    replace E := E.trans hE
    replace A := A.ext hE
    replace B := B.ext hE
    replace C := C.ext hE
    replace H := H.ext hE
    replace S := S.ext hE
    replace P0 := P0.ext hE
    clear hE
    have A' := A
    have B' := B
    have C' := C
    have H' := H
    have S' := S
    have P0' := P0
    obtain ⟨A0, A1, A2, A3⟩ := A
    have zA := cell_lt A0
    dsimp only at zA
    obtain ⟨B0, B1, B2, B3⟩ := B
    have zB := cell_lt B0
    dsimp only at zB
    obtain ⟨C0, C1, C2, C3⟩ := C
    have zC := cell_lt C0
    dsimp only at zC
    obtain ⟨H0, H1, H2, H3⟩ := H
    have zH := cell_lt H0
    dsimp only at zH
    obtain ⟨S0, S1, S2, S3, S4, S5, S6, S7⟩ := S
    have zS := cell_lt S0
    dsimp only at zS
    obtain ⟨P00, P01, P02, P03⟩ := P0
    have zP0 := cell_lt P00
    dsimp only at zP0
    go_wp2_with fail
    clear A0 A1 A2 A3 zA B0 B1 B2 B3 zB C0 C1 C2 C3 zC H0 H1 H2 H3 zH S0 S1 S2 S3 S4 S5 S6 S7 zS P00 P01 P02 P03 zP0
    have A := A'
    clear A'
    have B := B'
    clear B'
    have C := C'
    clear C'
    have H := H'
    clear H'
    have S := S'
    clear S'
    have P0 := P0'
    clear P0'
    clear P0
    rw [rounds_succ]
    have A' := A
    have B' := B
    have C' := C
    have H' := H
    have S' := S
    obtain ⟨A0, A1, A2, A3⟩ := A
    have zA := cell_lt A0
    dsimp only at zA
    obtain ⟨B0, B1, B2, B3⟩ := B
    have zB := cell_lt B0
    dsimp only at zB
    obtain ⟨C0, C1, C2, C3⟩ := C
    have zC := cell_lt C0
    dsimp only at zC
    obtain ⟨H0, H1, H2, H3⟩ := H
    have zH := cell_lt H0
    dsimp only at zH
    obtain ⟨S0, S1, S2, S3, S4, S5, S6, S7⟩ := S
    have zS := cell_lt S0
    dsimp only at zS
    have P1 : EncAt (w10.heap.size) (w10.alloc (.cells #[txt m, txt k] 24)) m k := ⟨by go_simp, by go_simp, by go_simp, by go_simp⟩
    have EA : Ext w10 (w10.alloc (.cells #[txt m, txt k] 24)) := extA
    replace A' := A'.ext EA
    replace B' := B'.ext EA
    replace C' := C'.ext EA
    replace H' := H'.ext EA
    replace S' := S'.ext EA
    replace E := E.trans EA
    clear EA
    go_wp2_with fail
    clear A0 A1 A2 A3 zA B0 B1 B2 B3 zB C0 C1 C2 C3 zC H0 H1 H2 H3 zH S0 S1 S2 S3 S4 S5 S6 S7 zS
    have A := A'
    clear A'
    have B := B'
    clear B'
    have C := C'
    clear C'
    have H := H'
    clear H'
    have S := S'
    clear S'
    obtain ⟨bP1, hbP1⟩ : ∃ b, b = w10.heap.size := ⟨_, rfl⟩
    rw [← hbP1] at P1  ⊢
    generalize (w10.alloc (.cells #[txt m, txt k] 24)) = w11 at A B C H S P1 E ⊢
    clear hbP1
    refine (X5.out _ E).mono ?_
    clear X5
    rintro e w12 ⟨rfl, hE⟩
    replace E := E.trans hE
    replace A := A.ext hE
    replace B := B.ext hE
    replace C := C.ext hE
    replace H := H.ext hE
    replace S := S.ext hE
    replace P1 := P1.ext hE
    clear hE
    have A' := A
    have B' := B
    have C' := C
    have H' := H
    have S' := S
    have P1' := P1
    obtain ⟨A0, A1, A2, A3⟩ := A
    have zA := cell_lt A0
    dsimp only at zA
    obtain ⟨B0, B1, B2, B3⟩ := B
    have zB := cell_lt B0
    dsimp only at zB
    obtain ⟨C0, C1, C2, C3⟩ := C
    have zC := cell_lt C0
    dsimp only at zC
    obtain ⟨H0, H1, H2, H3⟩ := H
    have zH := cell_lt H0
    dsimp only at zH
    obtain ⟨S0, S1, S2, S3, S4, S5, S6, S7⟩ := S
    have zS := cell_lt S0
    dsimp only at zS
    obtain ⟨P10, P11, P12, P13⟩ := P1
    have zP1 := cell_lt P10
    dsimp only at zP1
    go_wp2_with fail
    clear A0 A1 A2 A3 zA B0 B1 B2 B3 zB C0 C1 C2 C3 zC H0 H1 H2 H3 zH S0 S1 S2 S3 S4 S5 S6 S7 zS P10 P11 P12 P13 zP1
    have A := A'
    clear A'
    have B := B'
    clear B'
    have C := C'
    clear C'
    have H := H'
    clear H'
    have S := S'
    clear S'
    have P1 := P1'
    clear P1'
    clear P1
    rw [rounds_succ]
    have A' := A
    have B' := B
    have C' := C
    have H' := H
    have S' := S
    obtain ⟨A0, A1, A2, A3⟩ := A
    have zA := cell_lt A0
    dsimp only at zA
    obtain ⟨B0, B1, B2, B3⟩ := B
    have zB := cell_lt B0
    dsimp only at zB
    obtain ⟨C0, C1, C2, C3⟩ := C
    have zC := cell_lt C0
    dsimp only at zC
    obtain ⟨H0, H1, H2, H3⟩ := H
    have zH := cell_lt H0
    dsimp only at zH
    obtain ⟨S0, S1, S2, S3, S4, S5, S6, S7⟩ := S
    have zS := cell_lt S0
    dsimp only at zS
    go_wp2_with fail
    clear A0 A1 A2 A3 zA B0 B1 B2 B3 zB C0 C1 C2 C3 zC H0 H1 H2 H3 zH S0 S1 S2 S3 S4 S5 S6 S7 zS
    have A := A'
    clear A'
    have B := B'
    clear B'
    have C := C'
    clear C'
    have H := H'
    clear H'
    have S := S'
    clear S'
    refine (HA.out _ E).mono ?_
    rintro e w13 ⟨rfl, hE⟩
    replace E := E.trans hE
    replace A := A.ext hE
    replace B := B.ext hE
    replace C := C.ext hE
    replace H := H.ext hE
    replace S := S.ext hE
    clear hE
    go_wp2_with fail
    go_ret
    exact ⟨rfl, E⟩
structure SelfD (a b : Enc) (s1 s2 p1 p2 c1 c2 x y z : Txt) (n : Int) : Prop where
  s : squareE a = ((s1, s2), 0)
  p : mulE a a = ((p1, p2), 0)
  w : withinE (s1, s2) (p1, p2) = (true, 0)
  g : signS s1 = (n, 0)
  n0 : 0 ≤ n
  c : addE a b = ((c1, c2), 0)
  ex : widthE a = (x, 0)
  ey : widthE b = (y, 0)
  ez : widthE (c1, c2) = (z, 0)
  t : addS x y = (z, 0)
  ls : LenE (s1, s2)
  lp : LenE (p1, p2)
  lc : LenE (c1, c2)
  lx : x.length ≤ 400
  ly : y.length ≤ 400
end Go.Proofs.YtdejgaiocjfhjaaGreatDoor
