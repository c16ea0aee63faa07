/- Steps of the proof: FLMak, FRing, FRefS, FCmpF, FPrtF, FSml, FSmlF, FSmlR, FLChk. No conditions. -/
import Derived.Lib.AtoiAll
import Derived.Test.YtpfanpkinlklnaaGreatDoorZFB1
import Derived.Test.YtpfanpkinlklnaaGreatDoorZFB2
import Derived.Test.YtpfanpkinlklnaaGreatDoorZFB3
import Derived.Test.YtpfanpkinlklnaaGreatDoorZFB4
import Derived.Test.YtpfanpkinlklnaaGreatDoorZFB5
import Derived.Test.YtpfanpkinlklnaaGreatDoorZFB6
import Derived.Test.YtpfanpkinlklnaaGreatDoorZFB7
import Derived.Test.YtpfanpkinlklnaaGreatDoorZFB8
import Derived.Test.YtpfanpkinlklnaaGreatDoorZFB9
import Derived.Test.YtpfanpkinlklnaaGreatDoorZFB10
import Derived.Test.YtpfanpkinlklnaaGreatDoorZFB11
/- The laws' functions FractionMakes and FractionCounts. -/
namespace Go.Proofs.YtpfanpkinlklnaaGreatDoor
open Go.RowKit
open Go.Lib (decDigits itoa)

theorem beq_self (l : Txt) : (l == l) = true := beq_self_eq_true l
/-- the law's function answers true -/
def TrueP (w : World) (e : Ending) (w' : World) : Prop := e = .returned (.bool true) ∧ Ext w w'
set_option maxHeartbeats 4000000 in
set_option maxRecDepth 100000 in
theorem lawMakes_any (s t : Txt) (w : World) (hG : Glob w) : Calls Tryz.prog 3 #[txt s, txt t] w (TrueP w) := by
  have HG := Lib.hid hG
  have HA : Hid (∀ W, Ext w W → Calls Tryz.prog 13 #[] W fun e w' => e = .returned (.bool true) ∧ Ext W w') := fun W h => awake_any W (HG.out.ext h)
  have HF1 := Lib.hid (fun W => fewR_any s W)
  have HF2 := Lib.hid (fun W => fewR_any t W)
  clear hG
  unfold TrueP
  by_cases hs : s.length ≤ 180
  · rw [decide_eq_true hs] at HF1
    by_cases ht : t.length ≤ 180
    · rw [decide_eq_true ht] at HF2
      have HM : Hid (∀ W, Ext w W → Calls Tryz.prog 14 #[txt s, txt t] W (ResP (makeR s t) W)) := fun W h => make_any s t W (HG.out.ext h) (by omega) (by omega)
      have HR : Hid (∀ W, Calls Tryz.prog 15 #[txt s, txt t] W (ResP (makeR s t) W)) := fun W => makeR_any s t W (by omega) (by omega)
      unfold ResP at HM HR
      generalize makeR s t = R at *
      clear hs ht
      have E := Ext.refl w
      go_enter Tryz.func3, Tryz.ntmps3
      go_wp2_with (go_at_call 12; first | (with_reducible refine (HF1.out _).mono ?_; rintro e w' ⟨rfl, rfl⟩) | (with_reducible refine (HF2.out _).mono ?_; rintro e w' ⟨rfl, rfl⟩))
      go_wp2_with (go_at_call 14; refine (HM.out _ E).mono ?_; rintro e w1 ⟨rfl, h⟩)
      replace E := E.trans h
      clear h
      go_wp2_with (go_at_call 15; refine (HR.out _).mono ?_; rintro e w2 ⟨rfl, h⟩)
      replace E := E.trans h
      clear h
      go_wp2_with (go_at_call 13; refine (HA.out _ E).mono ?_; rintro e w3 ⟨rfl, h⟩)
      have hb := beq_self R.1
      go_wp2
      go_ret
      exact ⟨rfl, E.trans h⟩
    · rw [decide_eq_false ht] at HF2
      clear hs ht
      have E := Ext.refl w
      go_enter Tryz.func3, Tryz.ntmps3
      go_wp2_with (go_at_call 12; first | (with_reducible refine (HF1.out _).mono ?_; rintro e w' ⟨rfl, rfl⟩) | (with_reducible refine (HF2.out _).mono ?_; rintro e w' ⟨rfl, rfl⟩))
      go_wp2_with (go_at_call 13; refine (HA.out _ E).mono ?_; rintro e w3 ⟨rfl, h⟩)
      go_ret
      exact ⟨rfl, h⟩
  · rw [decide_eq_false hs] at HF1
    clear hs
    have E := Ext.refl w
    go_enter Tryz.func3, Tryz.ntmps3
    go_wp2_with (go_at_call 12; (with_reducible refine (HF1.out _).mono ?_; rintro e w' ⟨rfl, rfl⟩))
    go_wp2_with (go_at_call 13; refine (HA.out _ E).mono ?_; rintro e w3 ⟨rfl, h⟩)
    go_ret
    exact ⟨rfl, h⟩
set_option maxHeartbeats 4000000 in
set_option maxRecDepth 100000 in
theorem lawCounts_any (m n : Int) (w : World) (hG : Glob w) (h1 : -9223372036854775808 ≤ m) (h2 : m ≤ 9223372036854775807) (h3 : -9223372036854775808 ≤ n) (h4 : n ≤ 9223372036854775807) :
    Calls Tryz.prog 4 #[.int .i64 m, .int .i64 n] w (TrueP w) := by
  have HG := Lib.hid hG
  have HA : Hid (∀ W, Ext w W → Calls Tryz.prog 13 #[] W fun e w' => e = .returned (.bool true) ∧ Ext W w') := fun W h => awake_any W (HG.out.ext h)
  have HM : Hid (∀ W, Ext w W → Calls Tryz.prog 16 #[.int .i64 m, .int .i64 n] W (ResP (makeR (itoa m) (itoa n)) W)) := fun W h => of_any m n W (HG.out.ext h) h1 h2 h3 h4
  have HR : Hid (∀ W, Calls Tryz.prog 17 #[.int .i64 m, .int .i64 n] W (ResP (makeR (itoa m) (itoa n)) W)) := fun W => ofR_any m n W h1 h2 h3 h4
  have HW1 : Hid (∀ W, Ext w W → Calls Tryz.prog 18 #[.int .i64 m] W fun e w' => e = .returned (txt (itoa m)) ∧ Ext W w') := fun W h => whole_any m W (HG.out.ext h) h1 h2
  have HW2 : Hid (∀ W, Calls Tryz.prog 19 #[.int .i64 m] W fun e w' => e = .returned (txt (itoa m)) ∧ Ext W w') := fun W => wholeR_any m W h1 h2
  clear hG
  unfold ResP at HM HR
  unfold TrueP
  generalize makeR (itoa m) (itoa n) = R at *
  have E := Ext.refl w
  go_enter Tryz.func4, Tryz.ntmps4
  go_wp2_with (go_at_call 16; refine (HM.out _ E).mono ?_; rintro e w1 ⟨rfl, h⟩)
  replace E := E.trans h
  clear h
  go_wp2_with (go_at_call 17; refine (HR.out _).mono ?_; rintro e w2 ⟨rfl, h⟩)
  replace E := E.trans h
  clear h
  have hb := beq_self R.1
  have hb2 := beq_self (itoa m)
  generalize itoa m = tm at *
  go_wp2_with (go_at_call 13; refine (HA.out _ E).mono ?_; rintro e w3 ⟨rfl, h⟩)
  replace E := E.trans h
  clear h
  go_wp2_with (go_at_call 18; refine (HW1.out _ E).mono ?_; rintro e w4 ⟨rfl, h⟩)
  replace E := E.trans h
  clear h
  go_wp2_with (go_at_call 19; refine (HW2.out _).mono ?_; rintro e w5 ⟨rfl, h⟩)
  replace E := E.trans h
  clear h
  go_wp2
  go_ret
  exact ⟨rfl, E⟩
end Go.Proofs.YtpfanpkinlklnaaGreatDoor
/- The laws of the layer of fractions, in plain terms. No program in sight. -/
namespace Go.Proofs.YtpfanpkinlklnaaGreatDoor
open Go.Lib (decDigits itoa)

/-- a right text of a value that is not long -/
structure Good (K : Nat) (t : Txt) (q : Rat) : Prop where
  ok : fracE t = 0
  val : fracQ t = q
  fit : FitB K q
theorem Good.short {a : Txt} (h : fracE a = 0) (hl : a.length ≤ 10) : Good 10 a (fracQ a) := ⟨h, rfl, short_fit h hl⟩
theorem Good.of {K : Nat} {q : Rat} (h : FitB K q) (hK : K ≤ 60) : resQ q = (fracT q, 0) ∧ Good K (fracT q) q := by
  obtain ⟨h1, h2⟩ := made_fit (h.fit hK)
  obtain ⟨h3, h4⟩ := frac_of (h.fit hK)
  exact ⟨by unfold resQ; rw [h1, h2], ⟨h3, h4, h⟩⟩
theorem Good.both {K L : Nat} {s t : Txt} {q r : Rat} (h : Good K s q) (k : Good L t r) : bothE s t = 0 := by
  unfold bothE; rw [if_pos h.ok]; exact k.ok
theorem Good.add {K L : Nat} {s t : Txt} {q r : Rat} (h : Good K s q) (k : Good L t r) (hK : K + L + 1 ≤ 60) : addS s t = (fracT (q + r), 0) ∧ Good (K + L + 1) (fracT (q + r)) (q + r) := by
  obtain ⟨h1, h2⟩ := Good.of (h.fit.add k.fit) hK
  refine ⟨?_, h2⟩
  unfold addS ifOk
  rw [if_pos (h.both k), h.val, k.val, h1]
theorem Good.sub {K L : Nat} {s t : Txt} {q r : Rat} (h : Good K s q) (k : Good L t r) (hK : K + L + 1 ≤ 60) : subS s t = (fracT (q - r), 0) ∧ Good (K + L + 1) (fracT (q - r)) (q - r) := by
  obtain ⟨h1, h2⟩ := Good.of (h.fit.sub k.fit) hK
  refine ⟨?_, h2⟩
  unfold subS ifOk
  rw [if_pos (h.both k), h.val, k.val, h1]
theorem Good.mul {K L : Nat} {s t : Txt} {q r : Rat} (h : Good K s q) (k : Good L t r) (hK : K + L ≤ 60) : mulS s t = (fracT (q * r), 0) ∧ Good (K + L) (fracT (q * r)) (q * r) := by
  obtain ⟨h1, h2⟩ := Good.of (h.fit.mul k.fit) hK
  refine ⟨?_, h2⟩
  unfold mulS ifOk
  rw [if_pos (h.both k), h.val, k.val, h1]
theorem int_good {n : Int} {K : Nat} (hK : 0 < K) (h60 : K ≤ 60) (h : n.natAbs < 10 ^ K) : Good K (itoa n) (n : Rat) := by
  rw [← fracT_int]
  exact (Good.of (fit_int hK h) h60).2
theorem zero_good : Good 1 [48] 0 := by
  have h := int_good (n := 0) (K := 1) (by omega) (by omega) (by decide)
  rwa [show itoa 0 = [48] from (Go.Lib.itoa_nonneg 0).trans (digits_small (by omega)), Rat.intCast_zero] at h
theorem one_good : Good 1 [49] 1 := by
  have h := int_good (n := 1) (K := 1) (by omega) (by omega) (by decide)
  rwa [show itoa 1 = [49] from (Go.Lib.itoa_nonneg 1).trans (digits_small (by omega)), Rat.intCast_one] at h
theorem Good.inj {K L : Nat} {s t : Txt} {q : Rat} (h : Good K s q) (k : Good L t q) : s = t := frac_inj h.ok k.ok (h.val.trans k.val.symm)
theorem Good.zero {K : Nat} {s : Txt} {q : Rat} (h : Good K s q) : s = [48] ↔ q = 0 := by
  constructor
  · rintro rfl; rw [← h.val]; exact zero_good.val
  · rintro rfl; exact h.inj zero_good
theorem Good.div {K L : Nat} {s t : Txt} {q r : Rat} (h : Good K s q) (k : Good L t r) (hK : K + (L + 1) ≤ 60) (hr : r ≠ 0) : divS s t = (fracT (q / r), 0) ∧ Good (K + (L + 1)) (fracT (q / r)) (q / r) := by
  obtain ⟨h1, h2⟩ := Good.of (h.fit.div k.fit) hK
  refine ⟨?_, h2⟩
  unfold divS ifOk
  rw [if_pos (h.both k), if_neg (fun e => hr (k.zero.1 e)), h.val, k.val, h1]
theorem Good.neg {K : Nat} {s : Txt} {q : Rat} (h : Good K s q) (hK : K ≤ 60) : negR s = (fracT (-q), 0) ∧ Good K (fracT (-q)) (-q) := by
  refine ⟨?_, (Good.of h.fit.neg hK).2⟩
  unfold negR ifOk
  rw [if_pos h.ok, h.val]
theorem Good.floor {K : Nat} {s : Txt} {q : Rat} (h : Good K s q) (h0 : 0 < K) (hK : K ≤ 60) : floorR s = (itoa q.floor, 0) ∧ Good K (itoa q.floor) (q.floor : Rat) := by
  have h1 := int_good h0 hK (Nat.lt_of_le_of_lt (floor_abs q) h.fit.1)
  refine ⟨?_, h1⟩
  unfold floorR ifOk
  rw [if_pos h.ok, h.val, (Good.of h1.fit hK).1, fracT_int]
theorem Good.ceil {K : Nat} {s : Txt} {q : Rat} (h : Good K s q) (h0 : 0 < K) (hK : K ≤ 60) : ceilR s = (itoa q.ceil, 0) ∧ Good K (itoa q.ceil) (q.ceil : Rat) := by
  have h1 := int_good h0 hK (Nat.lt_of_le_of_lt (ceil_abs q) h.fit.1)
  refine ⟨?_, h1⟩
  unfold ceilR ifOk
  rw [if_pos h.ok, h.val, (Good.of h1.fit hK).1, fracT_int]
theorem Good.cmp {K L : Nat} {s t : Txt} {q r : Rat} (h : Good K s q) (k : Good L t r) : cmpS s t = ((q - r).num.sign, 0) := by
  unfold cmpS ifOk
  rw [if_pos (h.both k), h.val, k.val]
theorem Good.sign {K : Nat} {s : Txt} {q : Rat} (h : Good K s q) : signS s = (q.num.sign, 0) := by
  unfold signS ifOk
  rw [if_pos h.ok, h.val]
theorem Good.small {n : Int} (h : n.natAbs < 10 ^ 10) : smallR (itoa n) = (n, 0) := by
  have k := int_good (by omega) (by omega) h
  unfold smallR ifOk
  rw [if_pos k.ok, k.val, Rat.num_intCast, Rat.den_intCast, if_pos]
  have : (10 : Nat) ^ 10 = 10000000000 := by decide
  exact ⟨rfl, by omega, by omega⟩

/-! ### The laws -/
theorem law_swap (q r : Rat) : fracT (r + q) = fracT (q + r) ∧ fracT (r * q) = fracT (q * r) := by
  rw [Rat.add_comm, Rat.mul_comm]; exact ⟨rfl, rfl⟩
theorem law_undo (q r : Rat) : q + r - r = q := Rat.add_sub_cancel
theorem law_rest (q : Rat) : q + -q = 0 := Rat.add_neg_cancel q
/-- the differences of a fraction, its floor and its ceiling -/
theorem law_gap {a : Txt} {q : Rat} (h : Good 10 a q) : (fracT ((q.ceil : Rat) - (q.floor : Rat)) = [48] ∧ itoa q.floor = a) ∨
    (fracT ((q.ceil : Rat) - (q.floor : Rat)) = [49] ∧ ((q.floor : Rat) - q).num.sign < 0 ∧ (q - (q.ceil : Rat)).num.sign < 0) := by
  have e : (q.ceil : Rat) - (q.floor : Rat) = ((q.ceil - q.floor : Int) : Rat) := (Rat.intCast_sub _ _).symm
  rcases floor_ceil q with ⟨h1, h2⟩ | ⟨h1, h2, h3⟩
  · left
    rw [e, h1, fracT_int]
    refine ⟨(Go.Lib.itoa_nonneg 0).trans (digits_small (by omega)), ?_⟩
    have k := (h.floor (by omega) (by omega)).2
    rw [h2] at k
    exact k.inj h
  · right
    rw [e, h1, fracT_int]
    exact ⟨(Go.Lib.itoa_nonneg 1).trans (digits_small (by omega)), sgn_lt.2 h2, sgn_lt.2 h3⟩
end Go.Proofs.YtpfanpkinlklnaaGreatDoor
/- The reference's Short, Signum, Sign, both and Parts. -/
namespace Go.Proofs.YtpfanpkinlklnaaGreatDoor
open Go.RowKit
open Go.Lib (decDigits itoa)

theorem head_of {s : Txt} (hne : s ≠ []) : ∃ c, (∀ k, (⟨s.toArray⟩ : ByteArray)[0]'k = c) ∧ ((c.toNat : Int) == 45) = negS s ∧ 0 < s.length := by
  obtain ⟨c, m, hcm⟩ := List.exists_cons_of_ne_nil hne
  exact ⟨c, fun _ => by subst hcm; rfl, head_neg hcm, by rw [hcm]; simp⟩
theorem Good.any {a : Txt} (h : fracE a = 0) : Good 60 a (fracQ a) := ⟨h, rfl, frac_fit h⟩
theorem neg_top {a : Txt} (h : fracE a = 0) : a ≠ [] ∧ negS a = negS (topS a) := by
  obtain ⟨h1, _⟩ := frac_parts h
  have hne : topS a ≠ [] := fun e => h1.1.2.1 (by rw [e]; rfl)
  by_cases hs : 47 ∈ a
  · have e := split_some hs
    generalize topS a = t at *
    obtain ⟨c, m, rfl⟩ := List.exists_cons_of_ne_nil hne
    rw [e]
    exact ⟨by simp, rfl⟩
  · obtain ⟨e, _⟩ := split_none hs
    rw [e] at hne ⊢
    exact ⟨hne, rfl⟩
theorem signum_eq {a : Txt} (h : fracE a = 0) : (fracQ a).num.sign = if negS a then -1 else if a = [48] then 0 else 1 := by
  obtain ⟨h1, _⟩ := frac_parts h
  obtain ⟨_, h2⟩ := neg_top h
  have h3 := (frac_num h).1
  have h4 := neg_int h1
  rw [← h2] at h4
  by_cases hn : negS a = true
  · rw [if_pos hn]
    rw [hn, decide_eq_true_eq] at h4
    rw [h3]
    exact Int.sign_eq_neg_one_of_neg h4
  · rw [if_neg hn]
    have h5 : negS a = false := by simpa using hn
    rw [h5, decide_eq_false_iff_not] at h4
    by_cases h0 : a = [48]
    · rw [if_pos h0, ((Good.any h).zero).1 h0]; rfl
    · rw [if_neg h0]
      refine Int.sign_eq_one_of_pos ?_
      have h6 : (fracQ a).num ≠ 0 := fun e => h0 ((Good.any h).zero.2 (Rat.num_eq_zero.1 e))
      omega

set_option maxHeartbeats 2000000 in
theorem rShort_any (s : Txt) (w : World) : Calls Tryz.prog 80 #[txt s] w fun e w' => e = .returned (.bool (decide (s.length ≤ 10))) ∧ w' = w := by
  have HB : Hid (decide ((s.length : Int) ≤ 10) = decide (s.length ≤ 10)) := by
    show _ = _
    exact decide_eq_decide.2 (by omega)
  go_enter Tryz.func80, Tryz.ntmps80
  go_wp2
  go_ret
  exact ⟨ret_bool HB.out, rfl⟩
set_option maxHeartbeats 2000000 in
theorem rSignum_any (a : Txt) (w : World) (hf : fracE a = 0) : Calls Tryz.prog 83 #[txt a] w fun e w' => e = .returned (.int .i64 (fracQ a).num.sign) ∧ w' = w := by
  have HS := Lib.hid (signum_eq hf)
  obtain ⟨c, hget, hc, hpos⟩ := head_of (neg_top hf).1
  have hi : (0 : Int) < (a.length : Int) := by omega
  rw [HS.out]
  clear HS hf
  by_cases hn : negS a = true
  · rw [if_pos hn]
    rw [hn] at hc
    clear hn
    go_enter Tryz.func83, Tryz.ntmps83
    go_wp2
    go_ret
    exact ⟨rfl, rfl⟩
  · rw [if_neg hn]
    have h5 : negS a = false := by simpa using hn
    rw [h5] at hc
    clear hn h5
    by_cases h0 : a = [48]
    · rw [if_pos h0]
      have hz : (a == [48]) = true := by rw [h0]; rfl
      clear h0
      go_enter Tryz.func83, Tryz.ntmps83
      go_wp2
      go_ret
      exact ⟨rfl, rfl⟩
    · rw [if_neg h0]
      have hz : (a == [48]) = false := by rw [beq_eq_false_iff_ne]; exact h0
      clear h0
      go_enter Tryz.func83, Tryz.ntmps83
      go_wp2
      go_ret
      exact ⟨rfl, rfl⟩
set_option maxHeartbeats 2000000 in
theorem rSign_any (a : Txt) (w : World) (hl : a.length ≤ 400) : Calls Tryz.prog 47 #[txt a] w (IntP (signS a).1 (signS a).2 w) := by
  have HC := Lib.hid (checkR_any a w hl)
  unfold IntP
  by_cases ea : fracE a = 0
  · have HR : Hid (signS a = ((fracQ a).num.sign, 0)) := by show _ = _; unfold signS ifOk; rw [if_pos ea]
    have HS := Lib.hid (fun W => rSignum_any a W ea)
    rw [ea] at HC
    rw [HR.out]
    clear ea HR
    go_enter Tryz.func47, Tryz.ntmps47
    go_wp2_with (first
      | (go_at_call 50; refine HC.out.mono ?_; rintro e w1 ⟨rfl, hE⟩)
      | (go_at_call 83; refine (HS.out _).mono ?_; rintro e w' ⟨rfl, rfl⟩))
    go_ret2
    exact ⟨rfl, hE⟩
  · have HR : Hid (signS a = (0, fracE a)) := by show _ = _; unfold signS ifOk; rw [if_neg ea]
    have hne : (((fracE a : Nat) : Int) != 0) = true := by rw [bne_iff_ne]; omega
    rw [HR.out]
    clear ea HR
    generalize fracE a = n at *
    go_enter Tryz.func47, Tryz.ntmps47
    go_wp2_with (go_at_call 50; refine HC.out.mono ?_; rintro e w1 ⟨rfl, hE⟩)
    go_ret2
    exact ⟨rfl, hE⟩
set_option maxHeartbeats 2000000 in
theorem rBoth_any (a b : Txt) (w : World) (ha : a.length ≤ 400) (hb : b.length ≤ 400) :
    Calls Tryz.prog 70 #[txt a, txt b] w fun e w' => e = .returned (.int .i64 (bothE a b : Nat)) ∧ Ext w w' := by
  have HC := Lib.hid (checkR_any a w ha)
  have HD := Lib.hid (fun W => checkR_any b W hb)
  unfold bothE
  by_cases ea : fracE a = 0
  · rw [if_pos ea]
    rw [ea] at HC
    clear ea
    go_enter Tryz.func70, Tryz.ntmps70
    go_wp2_with (first
      | (go_at_call 50; with_reducible refine HC.out.mono ?_; rintro e w1 ⟨rfl, hE⟩)
      | (go_at_call 50; with_reducible refine (HD.out _).mono ?_; rintro e w2 ⟨rfl, hE2⟩))
    go_ret
    exact ⟨rfl, hE.trans hE2⟩
  · rw [if_neg ea]
    have hne : (((fracE a : Nat) : Int) != 0) = true := by rw [bne_iff_ne]; omega
    clear ea
    generalize fracE a = n at *
    go_enter Tryz.func70, Tryz.ntmps70
    go_wp2_with (go_at_call 50; with_reducible refine HC.out.mono ?_; rintro e w1 ⟨rfl, hE⟩)
    go_ret
    exact ⟨rfl, hE⟩
/-- two texts and the number of an error are returned -/
def ParP (r : Txt × Txt × Nat) (w : World) (e : Ending) (w' : World) : Prop := e = .returned (.tuple #[txt r.1, txt r.2.1, .int .i64 (r.2.2 : Nat)]) ∧ Ext w w'
theorem parts_ok {a : Txt} (h : fracE a = 0) : partsR a = (topS a, lowS a, 0) := by unfold partsR ifOk; rw [if_pos h]
theorem parts_bad {a : Txt} (h : fracE a ≠ 0) : partsR a = ([], [], fracE a) := by unfold partsR ifOk; rw [if_neg h]
set_option maxHeartbeats 2000000 in
theorem rParts_any (a : Txt) (w : World) (hl : a.length ≤ 400) : Calls Tryz.prog 45 #[txt a] w (ParP (partsR a) w) := by
  have HC := Lib.hid (checkR_any a w hl)
  have HS := Lib.hid (fun W => splitR_any a W hl)
  unfold ParP
  by_cases ea : fracE a = 0
  · rw [parts_ok ea]
    rw [ea] at HC
    clear ea
    generalize topS a = n at *
    generalize lowS a = d at *
    go_enter Tryz.func45, Tryz.ntmps45
    go_wp2_with (first
      | (go_at_call 50; with_reducible refine HC.out.mono ?_; rintro e w1 ⟨rfl, hE0⟩)
      | ((go_at_call 82; (with_reducible refine (HS.out _).mono ?_); rintro e w1 ⟨rfl, hE⟩)))
    go_ret3
    exact ⟨rfl, hE0.trans hE⟩
  · rw [parts_bad ea]
    have hne : (((fracE a : Nat) : Int) != 0) = true := by rw [bne_iff_ne]; omega
    clear ea HS
    generalize fracE a = n at *
    go_enter Tryz.func45, Tryz.ntmps45
    go_wp2_with (go_at_call 50; with_reducible refine HC.out.mono ?_; rintro e w1 ⟨rfl, hE⟩)
    go_ret3
    exact ⟨rfl, hE⟩
end Go.Proofs.YtpfanpkinlklnaaGreatDoor
/- The program's Compare and Parts. -/
namespace Go.Proofs.YtpfanpkinlklnaaGreatDoor
open Go.RowKit
open Go.Lib (decDigits itoa)

theorem cmp_num2 {a b : Txt} (ea : fracE a = 0) (eb : fracE b = 0) : cmpS a b = (signN (sumN (numOf a) (negN (numOf b))), 0) := by
  obtain ⟨h1, h2⟩ := sumN_val (x := numOf a) (y := negN (numOf b)) (numOf_len ea).2 (numOf_len eb).2
  have h3 : valQ (sumN (numOf a) (negN (numOf b))) = fracQ a - fracQ b := by rw [h1, negN_val, numOf_val, numOf_val, Rat.sub_eq_add_neg]
  unfold cmpS ifOk
  rw [if_pos (bothE_zero ea eb), ← h3]
  unfold valQ signN
  rw [num_sign h2]
set_option maxHeartbeats 16000000 in
set_option maxRecDepth 100000 in
theorem compareF_any (a b : Txt) (w : World) (hG : Glob w) (ha : a.length ≤ 400) (hb : b.length ≤ 400) :
    Calls Tryz.prog 37 #[txt a, txt b] w (IntP (cmpS a b).1 (cmpS a b).2 w) := by
  have HPA := Lib.hid (fun W (hW : Ext w W) => parsed_any a W (hG.ext hW) ha)
  have HPB := Lib.hid (fun W (hW : Ext w W) => parsed_any b W (hG.ext hW) hb)
  clear hG
  unfold IntP
  go_enter Tryz.func37, Tryz.ntmps37
  go_wp2_with fail
  refine (HPA.out _ (Ext.refl _)).mono ?_
  rintro e w1 ⟨v1, rfl, ⟨s1, ta, tn, tc, ba, bn, bc, rfl⟩, hn1, hE⟩
  have HN1 := Lib.hid hn1
  clear hn1 HPA
  by_cases ea : fracE a = 0
  rotate_left
  · have HR : Hid (cmpS a b = (0, fracE a)) := by show _ = _; unfold cmpS ifOk; rw [bothE_left ea, if_neg ea]
    have hne : (((fracE a : Nat) : Int) != 0) = true := by rw [bne_iff_ne]; omega
    clear HN1 HPB
    generalize fracE a = n at *
    go_wp2_with fail
    go_ret2
    exact ⟨by rw [HR.out]; rfl, (by repeat (first | with_reducible exact Ext.refl _ | with_reducible assumption | with_reducible apply Ext.drewN | with_reducible apply Ext.drew | with_reducible apply Ext.alloc | ((with_reducible refine Ext.set ?_ ?_ _); rotate_left; first | omega | (simp; omega)) | (with_reducible refine Ext.trans ?_ (by with_reducible assumption))))⟩
  have HNA := Lib.hid (HN1.out ea)
  rw [ea]
  have HEA := Lib.hid ea
  clear ea HN1
  have hne0 : (((0 : Nat) : Int) != 0) = false := rfl
  have EV : Ext w1 (w1.alloc (.cells #[.bool s1, .slice ta tn tc, .slice ba bn bc] 72)) := (by repeat (first | with_reducible exact Ext.refl _ | with_reducible assumption | with_reducible apply Ext.drewN | with_reducible apply Ext.drew | with_reducible apply Ext.alloc | ((with_reducible refine Ext.set ?_ ?_ _); rotate_left; first | omega | (simp; omega)) | (with_reducible refine Ext.trans ?_ (by with_reducible assumption))))
  have X : Num3 w1.heap.size (w1.alloc (.cells #[.bool s1, .slice ta tn tc, .slice ba bn bc] 72)) (.bool s1) (.slice ta tn tc) (.slice ba bn bc) := ⟨by go_simp, by go_simp, by go_simp, by go_simp, by go_simp, by go_simp⟩
  have E := hE.trans EV
  replace HNA := Lib.hid (HNA.out.ext EV)
  clear EV hE
  go_wp2_with fail
  obtain ⟨xb, hxb⟩ : ∃ xb, xb = w1.heap.size := ⟨_, rfl⟩
  rw [← hxb] at X ⊢
  clear hxb
  generalize (w1.alloc (.cells #[.bool s1, .slice ta tn tc, .slice ba bn bc] 72)) = W1 at X E HNA ⊢
  refine (HPB.out _ E).mono ?_
  rintro e w3 ⟨v2, rfl, ⟨s2, ua, un, uc, va, vn, vc, rfl⟩, hn2, hE⟩
  replace X := X.ext hE
  replace E := E.trans hE
  replace HNA := Lib.hid (HNA.out.ext hE)
  have HN2 := Lib.hid hn2
  clear hn2 HPB hE
  by_cases eb : fracE b = 0
  rotate_left
  · have HR : Hid (cmpS a b = (0, fracE b)) := by show _ = _; unfold cmpS ifOk; rw [bothE_right HEA.out, if_neg eb]
    have hne : (((fracE b : Nat) : Int) != 0) = true := by rw [bne_iff_ne]; omega
    clear HN2 HEA
    generalize fracE b = n at *
    go_wp2_with fail
    go_ret2
    exact ⟨by rw [HR.out]; rfl, (by repeat (first | with_reducible exact Ext.refl _ | with_reducible assumption | with_reducible apply Ext.drewN | with_reducible apply Ext.drew | with_reducible apply Ext.alloc | ((with_reducible refine Ext.set ?_ ?_ _); rotate_left; first | omega | (simp; omega)) | (with_reducible refine Ext.trans ?_ (by with_reducible assumption))))⟩
  have HNB := Lib.hid (HN2.out eb)
  have HR := Lib.hid (cmp_num2 HEA.out eb)
  have hxa := (numOf_len HEA.out).1
  have hyb := (numOf_len eb).1
  rw [eb]
  clear eb HN2 HEA
  have EV : Ext w3 (w3.alloc (.cells #[.bool s2, .slice ua un uc, .slice va vn vc] 72)) := (by repeat (first | with_reducible exact Ext.refl _ | with_reducible assumption | with_reducible apply Ext.drewN | with_reducible apply Ext.drew | with_reducible apply Ext.alloc | ((with_reducible refine Ext.set ?_ ?_ _); rotate_left; first | omega | (simp; omega)) | (with_reducible refine Ext.trans ?_ (by with_reducible assumption))))
  have Y : Num3 w3.heap.size (w3.alloc (.cells #[.bool s2, .slice ua un uc, .slice va vn vc] 72)) (.bool s2) (.slice ua un uc) (.slice va vn vc) := ⟨by go_simp, by go_simp, by go_simp, by go_simp, by go_simp, by go_simp⟩
  replace X := X.ext EV
  replace E := E.trans EV
  replace HNA := Lib.hid (HNA.out.ext EV)
  replace HNB := Lib.hid (HNB.out.ext EV)
  clear EV
  generalize numOf a = NA at *
  generalize numOf b = NB at *
  go_wp2_with fail
  obtain ⟨yb, hyb2⟩ : ∃ yb, yb = w3.heap.size := ⟨_, rfl⟩
  rw [← hyb2] at Y ⊢
  clear hyb2
  generalize (w3.alloc (.cells #[.bool s2, .slice ua un uc, .slice va vn vc] 72)) = W3 at X Y E HNA HNB ⊢
  have hdr : Ext W3 W3.drew := (by repeat (first | with_reducible exact Ext.refl _ | with_reducible assumption | with_reducible apply Ext.drewN | with_reducible apply Ext.drew | with_reducible apply Ext.alloc | ((with_reducible refine Ext.set ?_ ?_ _); rotate_left; first | omega | (simp; omega)) | (with_reducible refine Ext.trans ?_ (by with_reducible assumption))))
  replace X := X.ext hdr
  replace Y := Y.ext hdr
  replace E := E.trans hdr
  replace HNA := Lib.hid (HNA.out.ext hdr)
  replace HNB := Lib.hid (HNB.out.ext hdr)
  have hS : W3.drew.cell? ⟨xb, 0, none⟩ = some (.bool s1) ∧ W3.drew.cell? ⟨xb, 1, none⟩ = some (.slice ta tn tc) ∧ W3.drew.cell? ⟨xb, 2, none⟩ = some (.slice ba bn bc) ∧ W3.drew.cell? ⟨yb, 0, none⟩ = some (.bool s2) ∧ W3.drew.cell? ⟨yb, 1, none⟩ = some (.slice ua un uc) ∧ W3.drew.cell? ⟨yb, 2, none⟩ = some (.slice va vn vc) := ⟨X.c0, X.c1, X.c2, Y.c0, Y.c1, Y.c2⟩
  refine wp_region_heldE 99 (fun w' => w'.cell? ⟨xb, 0, none⟩ = some (.bool s1) ∧ w'.cell? ⟨xb, 1, none⟩ = some (.slice ta tn tc) ∧ w'.cell? ⟨xb, 2, none⟩ = some (.slice ba bn bc) ∧ w'.cell? ⟨yb, 0, none⟩ = some (.bool s2) ∧ w'.cell? ⟨yb, 1, none⟩ = some (.slice ua un uc) ∧ w'.cell? ⟨yb, 2, none⟩ = some (.slice va vn vc)) (by kernel_rfl) ?_
  clear hdr X Y
  generalize W3.drew = W4 at E HNA HNB hS ⊢
  ((refine wpAnyE_take (i := 0) (oi := ?_) (v := ?_) ?_ (by kernel_rfl) ?_ ?_ (by assumption) ?_; rotate_left 2; (focus ((simp only [List.getElem?_toArray, List.getElem?_cons_zero]; exact rfl))); (focus (exact fun _ _ _ h => h)); (focus (refine Or.inl ⟨by rfl, ?_⟩; intro w hSw; (try dsimp only at hSw); (first | (go_simp; done) | (go_simp; with_reducible rfl)))); (try simp only [Act.put, List.setIfInBounds_toArray, List.set_cons_zero, List.set_cons_succ])); (refine wpAnyE_take (i := 1) (oi := ?_) (v := ?_) ?_ (by kernel_rfl) ?_ ?_ (by assumption) ?_; rotate_left 2; (focus ((simp only [List.getElem?_toArray, List.getElem?_cons_succ, List.getElem?_cons_zero]; exact rfl))); (focus (exact fun _ _ _ h => h)); (focus (refine Or.inl ⟨by rfl, ?_⟩; intro w hSw; (try dsimp only at hSw); (first | (go_simp; done) | (go_simp; with_reducible rfl)))); (try simp only [Act.put, List.setIfInBounds_toArray, List.set_cons_zero, List.set_cons_succ])))
  (refine wpAnyE_one (i := 2) (o := ?_) ?_ (by kernel_rfl) (fun K hK => ?_); rotate_left; (focus ((simp only [List.getElem?_toArray, List.getElem?_cons_succ, List.getElem?_cons_zero]; exact rfl))); go_simp; go_at_call 62; refine (opposite_any NB _ _ HNB.out).mono ?_; rintro e w5 ⟨v5, rfl, h5, hE⟩; go_wp2_with fail; refine hK.out _ _ ?_ (fun hHeld => ?_); rotate_left; clear hK K; (try simp only [Act.put, List.setIfInBounds_toArray, List.set_cons_zero, List.set_cons_succ]))
  rotate_left
  · exact ⟨hE.cell hS.1, hE.cell hS.2.1, hE.cell hS.2.2.1, hE.cell hS.2.2.2.1, hE.cell hS.2.2.2.2.1, hE.cell hS.2.2.2.2.2⟩
  have hS5 : w5.cell? ⟨xb, 0, none⟩ = some (.bool s1) ∧ w5.cell? ⟨xb, 1, none⟩ = some (.slice ta tn tc) ∧ w5.cell? ⟨xb, 2, none⟩ = some (.slice ba bn bc) ∧ w5.cell? ⟨yb, 0, none⟩ = some (.bool s2) ∧ w5.cell? ⟨yb, 1, none⟩ = some (.slice ua un uc) ∧ w5.cell? ⟨yb, 2, none⟩ = some (.slice va vn vc) := ⟨hE.cell hS.1, hE.cell hS.2.1, hE.cell hS.2.2.1, hE.cell hS.2.2.2.1, hE.cell hS.2.2.2.2.1, hE.cell hS.2.2.2.2.2⟩
  replace E := E.trans hE
  replace HNA := Lib.hid (HNA.out.ext hE)
  have HV5 := Lib.hid h5
  clear hS hE h5 hHeld HNB
  (refine wpAnyE_one (i := 3) (o := ?_) ?_ (by kernel_rfl) (fun K hK => ?_); rotate_left; (focus ((simp only [List.getElem?_toArray, List.getElem?_cons_succ, List.getElem?_cons_zero]; exact rfl))); go_simp; go_at_call 76; refine (sum_any NA (negN NB) _ v5 w5 HNA.out HV5.out hxa hyb).mono ?_; rintro e w6 ⟨v6, rfl, h6, _, hE⟩; go_wp2_with fail; refine hK.out _ _ ?_ (fun hHeld => ?_); rotate_left; clear hK K; (try simp only [Act.put, List.setIfInBounds_toArray, List.set_cons_zero, List.set_cons_succ]))
  rotate_left
  · exact ⟨hE.cell hS5.1, hE.cell hS5.2.1, hE.cell hS5.2.2.1, hE.cell hS5.2.2.2.1, hE.cell hS5.2.2.2.2.1, hE.cell hS5.2.2.2.2.2⟩
  have hS6 : w6.cell? ⟨xb, 0, none⟩ = some (.bool s1) ∧ w6.cell? ⟨xb, 1, none⟩ = some (.slice ta tn tc) ∧ w6.cell? ⟨xb, 2, none⟩ = some (.slice ba bn bc) ∧ w6.cell? ⟨yb, 0, none⟩ = some (.bool s2) ∧ w6.cell? ⟨yb, 1, none⟩ = some (.slice ua un uc) ∧ w6.cell? ⟨yb, 2, none⟩ = some (.slice va vn vc) := ⟨hE.cell hS5.1, hE.cell hS5.2.1, hE.cell hS5.2.2.1, hE.cell hS5.2.2.2.1, hE.cell hS5.2.2.2.2.1, hE.cell hS5.2.2.2.2.2⟩
  replace E := E.trans hE
  have HV6 := Lib.hid h6
  clear hS5 hE h6 hHeld HNA HV5
  generalize sumN NA (negN NB) = SN at *
  (refine wpAnyE_one (i := 4) (o := ?_) ?_ (by kernel_rfl) (fun K hK => ?_); rotate_left; (focus ((simp only [List.getElem?_toArray, List.getElem?_cons_succ, List.getElem?_cons_zero]; exact rfl))); go_simp; go_at_call 75; refine (sign_any SN v6 w6 HV6.out).mono ?_; rintro e w7 ⟨rfl, hE⟩; go_wp2_with fail; refine hK.out _ _ ?_ (fun hHeld => ?_); rotate_left; clear hK K; (try simp only [Act.put, List.setIfInBounds_toArray, List.set_cons_zero, List.set_cons_succ]))
  rotate_left
  · exact ⟨hE.cell hS6.1, hE.cell hS6.2.1, hE.cell hS6.2.2.1, hE.cell hS6.2.2.2.1, hE.cell hS6.2.2.2.2.1, hE.cell hS6.2.2.2.2.2⟩
  have hS7 : w7.cell? ⟨xb, 0, none⟩ = some (.bool s1) ∧ w7.cell? ⟨xb, 1, none⟩ = some (.slice ta tn tc) ∧ w7.cell? ⟨xb, 2, none⟩ = some (.slice ba bn bc) ∧ w7.cell? ⟨yb, 0, none⟩ = some (.bool s2) ∧ w7.cell? ⟨yb, 1, none⟩ = some (.slice ua un uc) ∧ w7.cell? ⟨yb, 2, none⟩ = some (.slice va vn vc) := ⟨hE.cell hS6.1, hE.cell hS6.2.1, hE.cell hS6.2.2.1, hE.cell hS6.2.2.2.1, hE.cell hS6.2.2.2.2.1, hE.cell hS6.2.2.2.2.2⟩
  replace E := E.trans hE
  clear hS6 hE hHeld
  ((refine wpAnyE_pure (i := 5) (oi := ?_) (v := ?_) ?_ (by kernel_rfl) ?_ ?_ ?_ ?_; rotate_left 2; (focus ((simp only [List.getElem?_toArray, List.getElem?_cons_succ, List.getElem?_cons_zero]; exact rfl))); (focus (exact fun _ _ _ h => h)); (focus (refine Or.inl ⟨by rfl, ?_⟩; intro w hSw; clear hSw; (first | (go_simp; done) | (go_simp; with_reducible rfl)))); (focus (first | exact (fun _ => by assumption) | (intro hlst; exact absurd hlst (by kernel_rfl)) | (intro hlst; cases hlst))); (try simp only [Act.put, List.setIfInBounds_toArray, List.set_cons_zero, List.set_cons_succ])); (refine wpAnyE_pure (i := 6) (oi := ?_) (v := ?_) ?_ (by kernel_rfl) ?_ ?_ ?_ ?_; rotate_left 2; (focus ((simp only [List.getElem?_toArray, List.getElem?_cons_succ, List.getElem?_cons_zero]; exact rfl))); (focus (exact fun _ _ _ h => h)); (focus (refine Or.inl ⟨by rfl, ?_⟩; intro w hSw; clear hSw; (first | (go_simp; done) | (go_simp; with_reducible rfl)))); (focus (first | exact (fun _ => by assumption) | (intro hlst; exact absurd hlst (by kernel_rfl)) | (intro hlst; cases hlst))); (try simp only [Act.put, List.setIfInBounds_toArray, List.set_cons_zero, List.set_cons_succ])))
  clear hS7
  refine wpAnyE_done (by kernel_rfl) ?_ _
  go_wp2_with fail
  go_ret2
  exact ⟨by rw [HR.out]; rfl, E⟩
end Go.Proofs.YtpfanpkinlklnaaGreatDoor
/- The program's Parts. -/
namespace Go.Proofs.YtpfanpkinlklnaaGreatDoor
open Go.RowKit
open Go.Lib (decDigits itoa)

set_option maxHeartbeats 4000000 in
set_option maxRecDepth 100000 in
theorem partsF_any (a : Txt) (w : World) (hG : Glob w) (ha : a.length ≤ 400) : Calls Tryz.prog 40 #[txt a] w (ParP (partsR a) w) := by
  have HC := Lib.hid (check_any a w hG ha)
  have HCut := Lib.hid (fun W (hW : Ext w W) => Cut_any a W (hG.ext hW) (by omega))
  clear hG
  unfold ParP
  by_cases ea : fracE a = 0
  · rw [parts_ok ea]
    rw [ea] at HC
    clear ea
    have hne0 : (((0 : Nat) : Int) != 0) = false := rfl
    by_cases hs : 47 ∈ a
    · rw [if_pos hs, decide_eq_true hs] at HCut
      clear hs
      generalize topS a = n at *
      generalize lowS a = d at *
      go_enter Tryz.func40, Tryz.ntmps40
      go_wp2_with (first
        | (go_at_call 44; with_reducible refine HC.out.mono ?_; rintro e w1 ⟨rfl, hE⟩)
        | (go_at_call 81; with_reducible refine (HCut.out _ hE).mono ?_; rintro e w2 ⟨rfl, hE2⟩))
      go_ret3
      exact ⟨rfl, hE.trans hE2⟩
    · rw [if_neg hs, decide_eq_false hs] at HCut
      rw [(split_none hs).2]
      clear hs
      generalize topS a = n at *
      go_enter Tryz.func40, Tryz.ntmps40
      go_wp2_with (first
        | (go_at_call 44; with_reducible refine HC.out.mono ?_; rintro e w1 ⟨rfl, hE⟩)
        | (go_at_call 81; with_reducible refine (HCut.out _ hE).mono ?_; rintro e w2 ⟨rfl, hE2⟩))
      go_ret3
      exact ⟨rfl, hE.trans hE2⟩
  · rw [parts_bad ea]
    have hne : (((fracE a : Nat) : Int) != 0) = true := by rw [bne_iff_ne]; omega
    clear ea HCut
    generalize fracE a = n at *
    go_enter Tryz.func40, Tryz.ntmps40
    go_wp2_with (go_at_call 44; with_reducible refine HC.out.mono ?_; rintro e w1 ⟨rfl, hE⟩)
    go_ret3
    exact ⟨rfl, hE⟩
end Go.Proofs.YtpfanpkinlklnaaGreatDoor
/- Atoi at the texts of right fractions, and the reference's loop of Small, in plain terms. No program in sight. -/
namespace Go.Proofs.YtpfanpkinlklnaaGreatDoor
open Go.Lib (decDigits itoa parseUint10 parseMag atoiAll NumEnd)

theorem pu_digits : ∀ (l : Txt) (acc : Nat), DigitL l → acc < 18446744073709551616 →
    parseUint10 acc l = if acc * 10 ^ l.length + decV l < 18446744073709551616 then .ok (acc * 10 ^ l.length + decV l) else .range
  | [], acc, _, ha => by
    have h0 : decV ([] : Txt) = 0 := rfl
    simp only [parseUint10, List.length_nil, Nat.pow_zero, Nat.mul_one, h0, Nat.add_zero]
    rw [if_pos ha]
  | c :: l, acc, h, ha => by
    have h1 := h c (List.mem_cons_self ..)
    have h2 : DigitL l := fun d hd => h d (List.mem_cons_of_mem _ hd)
    have h4 : decV (c :: l) = (c.toNat - 48) * 10 ^ l.length + decV l := by
      rw [show c :: l = [c] ++ l from rfl, decV_append]
      congr 2
      simp [decV]
    have hp : 0 < 10 ^ l.length := Nat.pow_pos (by omega)
    have e : acc * 10 ^ (c :: l).length + decV (c :: l) = (acc * 10 + (c.toNat - 48)) * 10 ^ l.length + decV l := by
      rw [h4, List.length_cons, Nat.pow_succ, Nat.add_mul, Nat.mul_comm (10 ^ l.length) 10, Nat.mul_assoc, Nat.add_assoc]
    rw [e]
    have hge : acc * 10 + (c.toNat - 48) ≤ (acc * 10 + (c.toNat - 48)) * 10 ^ l.length := Nat.le_mul_of_pos_right _ hp
    simp only [parseUint10]
    rw [if_pos h1]
    by_cases k1 : 1844674407370955162 ≤ acc
    · rw [if_pos k1, if_neg (by omega)]
    · rw [if_neg k1]
      by_cases k2 : 18446744073709551616 ≤ acc * 10 + (c.toNat - 48)
      · rw [if_pos k2, if_neg (by omega)]
      · rw [if_neg k2]
        exact pu_digits l _ h2 (by omega)
theorem pu_bad : ∀ (l : Txt) (acc : Nat) (v : Nat), 47 ∈ l → parseUint10 acc l ≠ .ok v
  | [], _, _, h => by cases h
  | c :: l, acc, v, h => by
    simp only [parseUint10]
    by_cases k : 48 ≤ c.toNat ∧ c.toNat ≤ 57
    · rw [if_pos k]
      have hm : 47 ∈ l := by
        rcases List.mem_cons.1 h with h | h
        · exfalso
          rw [← h] at k
          exact absurd k.1 (by decide)
        · exact h
      split
      · intro e; cases e
      · split
        · intro e; cases e
        · exact pu_bad l _ v hm
    · rw [if_neg k]
      intro e; cases e
theorem neg_byte {c : UInt8} : c.toNat = 45 ↔ c = 45 := ⟨fun h => UInt8.toNat_inj.1 h, fun h => by rw [h]; rfl⟩
theorem atoi_int {s : Txt} (h : IntS s) : atoiAll s = if -9223372036854775808 ≤ intV s ∧ intV s ≤ 9223372036854775807 then .ok (intV s) else .range := by
  obtain ⟨⟨hd, hne, hcan⟩, h0⟩ := h
  cases hn : negS s with
  | true =>
    have e := neg_cons hn
    generalize bareS s = r at *
    have hv : intV s = -(decV r : Int) := by
      unfold intV
      rw [if_pos hn, e]
      rfl
    rw [hv, e]
    have hlt : decV r < 10 ^ r.length := decV_lt hd
    have hm : parseMag r = if decV r < 18446744073709551616 then .ok (decV r) else .range := by
      unfold parseMag
      rw [if_neg hne, pu_digits r 0 hd (by omega), Nat.zero_mul, Nat.zero_add]
    unfold atoiAll
    simp only [show (45 : UInt8).toNat = 45 from rfl, or_true, if_true, hm]
    by_cases k : decV r < 18446744073709551616
    · rw [if_pos k]
      simp only [not_true, false_and, if_false, true_and]
      by_cases k2 : 9223372036854775808 < decV r
      · rw [if_pos k2, if_neg (by omega)]
      · rw [if_neg k2, if_pos (by omega)]
    · rw [if_neg k]
      dsimp only
      rw [if_neg (by omega)]
  | false =>
    have e := bare_pos hn
    rw [e] at hd hne
    have hv : intV s = (decV s : Int) := by
      unfold intV
      rw [hn, e]
      rfl
    rw [hv]
    obtain ⟨c, m, rfl⟩ := List.exists_cons_of_ne_nil hne
    have hc := hd c (List.mem_cons_self ..)
    have hm : parseMag (c :: m) = if decV (c :: m) < 18446744073709551616 then .ok (decV (c :: m)) else .range := by
      unfold parseMag
      rw [if_neg hne, pu_digits _ 0 hd (by omega), Nat.zero_mul, Nat.zero_add]
    unfold atoiAll
    dsimp only
    rw [if_neg (by omega), hm]
    have hc45 : ¬ c.toNat = 45 := by omega
    by_cases k : decV (c :: m) < 18446744073709551616
    · rw [if_pos k]
      dsimp only
      by_cases k2 : 9223372036854775808 ≤ decV (c :: m)
      · rw [if_pos ⟨hc45, k2⟩, if_neg (by omega)]
      · rw [if_neg (fun h => k2 h.2), if_neg (fun h => hc45 h.1), if_neg hc45, if_pos (by omega)]
    · rw [if_neg k]
      dsimp only
      rw [if_neg (by omega)]
theorem atoi_slash {s : Txt} (hs : 47 ∈ s.tail) (v : Int) : atoiAll s ≠ .ok v := by
  cases s with
  | nil => cases hs
  | cons c r =>
    have hs : 47 ∈ r := hs
    have key : ∀ u, parseMag (if c.toNat = 43 ∨ c.toNat = 45 then r else c :: r) ≠ .ok u := fun u => by
      split
      · unfold parseMag
        split
        · intro e; cases e
        · exact pu_bad r 0 u hs
      · unfold parseMag
        rw [if_neg (by simp)]
        exact pu_bad _ 0 u (List.mem_cons_of_mem _ hs)
    unfold atoiAll
    dsimp only
    generalize parseMag (if c.toNat = 43 ∨ c.toNat = 45 then r else c :: r) = q at *
    rcases q with u | _ | _
    · exact absurd rfl (key u)
    · intro e; cases e
    · intro e; cases e
theorem slash_tail {a : Txt} (h : fracE a = 0) (hs : 47 ∈ a) : 47 ∈ a.tail := by
  obtain ⟨h1, _⟩ := frac_parts h
  have hne : topS a ≠ [] := fun e => h1.1.2.1 (by rw [e]; rfl)
  have e := split_some hs
  generalize topS a = t at *
  obtain ⟨c, m, rfl⟩ := List.exists_cons_of_ne_nil hne
  rw [e]
  simp
end Go.Proofs.YtpfanpkinlklnaaGreatDoor
/- The program's Small. -/
namespace Go.Proofs.YtpfanpkinlklnaaGreatDoor
open Go.RowKit
open Go.Lib (decDigits itoa atoiAll)

theorem small_bad {a : Txt} (h : fracE a ≠ 0) : smallR a = (0, fracE a) := by unfold smallR ifOk; rw [if_neg h]
theorem small_cases {a : Txt} (h : fracE a = 0) : (∃ v, atoiAll a = .ok v ∧ smallR a = (v, 0)) ∨ ((∀ v, atoiAll a ≠ .ok v) ∧ smallR a = (0, 2)) := by
  obtain ⟨h1, _, _, _, _, _, h7⟩ := frac_parts h
  obtain ⟨k1, k2⟩ := frac_num h
  have hr : smallR a = if (fracQ a).den = 1 ∧ -9223372036854775808 ≤ (fracQ a).num ∧ (fracQ a).num ≤ 9223372036854775807 then ((fracQ a).num, 0) else (0, 2) := by
    unfold smallR ifOk; rw [if_pos h]
  rw [k1, k2] at hr
  by_cases hs : 47 ∈ a
  · right
    refine ⟨atoi_slash (slash_tail h hs), ?_⟩
    rw [hr, if_neg (fun k => h7.1 hs k.1)]
  · have hd : decV (lowS a) = 1 := Decidable.byContradiction fun k => hs (h7.2 k)
    rw [(split_none hs).1] at h1 hr
    have ha := atoi_int h1
    by_cases k : -9223372036854775808 ≤ intV a ∧ intV a ≤ 9223372036854775807
    · rw [if_pos k] at ha
      left
      exact ⟨_, ha, by rw [hr, if_pos ⟨hd, k⟩]⟩
    · rw [if_neg k] at ha
      right
      refine ⟨fun v e => (by rw [ha] at e; cases e), ?_⟩
      rw [hr, if_neg (fun q => k q.2)]
/-- a number and an error that is not nil -/
def AtoiBad (w : World) (e : Ending) (w' : World) : Prop := ∃ (z : Int) (N : Nat), e = .returned (.tuple #[.int .i64 z, .iface 161 (.pointer (some ⟨N, 0, none⟩))]) ∧ Ext w w'
theorem atoi_bad {a : Txt} (hl : a.length ≤ 400) (h : ∀ v, atoiAll a ≠ .ok v) (w : World) (hG : Glob w) : Calls Tryz.prog 84 #[txt a] w (AtoiBad w) := by
  have hz : (⟨a.toArray⟩ : ByteArray).size ≤ 281474976710656 := by show a.toArray.size ≤ _; simp; omega
  obtain ⟨_, _, ⟨t1, p1, hv1⟩, ⟨t2, p2, hv2⟩⟩ := hG
  rcases hq : atoiAll a with v | _ | _
  · exact absurd hq (h v)
  · refine (Tryz.strconv_Atoi_syntax_var ⟨a.toArray⟩ hz hq t1 p1 w hv1).mono ?_
    rintro e w' ⟨N, h1, _, _, h4⟩
    exact ⟨_, N, h1, h4⟩
  · refine (Tryz.strconv_Atoi_range_var ⟨a.toArray⟩ hz hq t2 p2 w hv2).mono ?_
    rintro e w' ⟨N, h1, _, _, h4⟩
    exact ⟨_, N, h1, h4⟩
theorem atoi_good {a : Txt} (hl : a.length ≤ 400) {v : Int} (h : atoiAll a = .ok v) (w : World) : Calls Tryz.prog 84 #[txt a] w fun e w' => e = .returned (.tuple #[.int .i64 v, .nilIface]) ∧ Ext w w' := by
  refine (Tryz.strconv_Atoi_ok ⟨a.toArray⟩ (by show a.toArray.size ≤ _; simp; omega) v h w).mono ?_
  rintro e w' ⟨h1, h2⟩
  refine ⟨h1, ?_⟩
  rcases h2 with rfl | ⟨t, rfl⟩
  · exact Ext.refl _
  · exact ext_bytes w _ t
set_option maxHeartbeats 4000000 in
set_option maxRecDepth 100000 in
theorem smallF_any (a : Txt) (w : World) (hG : Glob w) (ha : a.length ≤ 400) : Calls Tryz.prog 48 #[txt a] w (IntP (smallR a).1 (smallR a).2 w) := by
  have HC := Lib.hid (check_any a w hG ha)
  unfold IntP
  by_cases ea : fracE a = 0
  · rcases small_cases ea with ⟨v, h1, h2⟩ | ⟨h1, h2⟩
    · have HA := Lib.hid (fun W => atoi_good ha h1 W)
      rw [h2]
      rw [ea] at HC
      clear ea h1 h2 hG
      have hne0 : (((0 : Nat) : Int) != 0) = false := rfl
      go_enter Tryz.func48, Tryz.ntmps48
      go_wp2_with (first
        | (go_at_call 44; with_reducible refine HC.out.mono ?_; rintro e w1 ⟨rfl, hE⟩)
        | (go_at_call 84; with_reducible refine (HA.out _).mono ?_; rintro e w2 ⟨rfl, hE2⟩))
      go_ret2
      exact ⟨rfl, hE.trans hE2⟩
    · have HA := Lib.hid (fun W (hW : Ext w W) => atoi_bad ha h1 W (hG.ext hW))
      rw [h2]
      rw [ea] at HC
      clear ea h1 h2 hG
      have hne0 : (((0 : Nat) : Int) != 0) = false := rfl
      go_enter Tryz.func48, Tryz.ntmps48
      go_wp2_with (first
        | (go_at_call 44; with_reducible refine HC.out.mono ?_; rintro e w1 ⟨rfl, hE⟩)
        | (go_at_call 84; refine (HA.out _ hE).mono ?_; rintro e w2 ⟨z, N, rfl, hE2⟩))
      go_ret2
      exact ⟨rfl, hE.trans hE2⟩
  · rw [small_bad ea]
    have hne : (((fracE a : Nat) : Int) != 0) = true := by rw [bne_iff_ne]; omega
    clear ea hG
    generalize fracE a = n at *
    go_enter Tryz.func48, Tryz.ntmps48
    go_wp2_with (go_at_call 44; with_reducible refine HC.out.mono ?_; rintro e w1 ⟨rfl, hE⟩)
    go_ret2
    exact ⟨rfl, hE⟩
end Go.Proofs.YtpfanpkinlklnaaGreatDoor
/- The reference's Small. -/
namespace Go.Proofs.YtpfanpkinlklnaaGreatDoor
open Go.RowKit
open Go.Lib (decDigits itoa atoiAll)

theorem wrap64_fit {x : Int} (h1 : -9223372036854775808 ≤ x) (h2 : x ≤ 9223372036854775807) : wrap64 x = x := by unfold wrap64; omega
def sgnD (neg : Bool) (m : Nat) : Int := if neg then -(m : Int) else m
theorem sgnD_int (s : Txt) : intV s = sgnD (negS s) (decV (bareS s)) := by unfold intV sgnD; cases negS s <;> rfl
theorem decV_take {b : Txt} {i : Nat} (h : i < b.length) : decV (b.take (i + 1)) = 10 * decV (b.take i) + ((b[i]'h).toNat - 48) := by
  rw [List.take_add_one, List.getElem?_eq_getElem h]
  exact decV_snoc _ _
theorem decV_take_le (b : Txt) (i : Nat) : decV (b.take i) ≤ decV b := by
  have e : b = b.take i ++ b.drop i := (List.take_append_drop i b).symm
  have h : decV b = decV (b.take i) * 10 ^ (b.drop i).length + decV (b.drop i) := by
    conv => lhs; rw [e]
    exact decV_append _ _
  have h2 : decV (b.take i) ≤ decV (b.take i) * 10 ^ (b.drop i).length := Nat.le_mul_of_pos_right _ (Nat.pow_pos (by omega))
  omega
theorem long_big {s : Txt} (h : CanonL s) (hl : 19 < s.length) : 10 ^ 19 ≤ decV s := by
  rcases Nat.lt_or_ge (decV s) (10 ^ 19) with k | k
  · have := (digits_len_le (decV s) 19 (by omega)).2 k
    rw [canon_back h] at this
    omega
  · exact k

set_option maxHeartbeats 8000000 in
set_option maxRecDepth 100000 in
theorem rSmall_any (a : Txt) (w : World) (ha : a.length ≤ 400) : Calls Tryz.prog 49 #[txt a] w (IntP (smallR a).1 (smallR a).2 w) := by
  have HC := Lib.hid (checkR_any a w ha)
  have HS := Lib.hid (fun W => splitR_any a W ha)
  unfold IntP
  by_cases ea : fracE a = 0
  rotate_left
  · rw [small_bad ea]
    have hne : (((fracE a : Nat) : Int) != 0) = true := by rw [bne_iff_ne]; omega
    clear ea HS
    generalize fracE a = k at *
    go_enter Tryz.func49, Tryz.ntmps49
    go_wp2_with (go_at_call 50; with_reducible refine HC.out.mono ?_; rintro e w1 ⟨rfl, hE⟩)
    go_ret2
    exact ⟨rfl, hE⟩
  obtain ⟨h1, -, h3, -, -, -, h7⟩ := frac_parts ea
  obtain ⟨k1, k2⟩ := frac_num ea
  have hr : smallR a = if (fracQ a).den = 1 ∧ -9223372036854775808 ≤ (fracQ a).num ∧ (fracQ a).num ≤ 9223372036854775807 then ((fracQ a).num, 0) else (0, 2) := by
    unfold smallR ifOk; rw [if_pos ea]
  rw [k1, k2] at hr
  rw [ea] at HC
  have htl : (topS a).length ≤ 400 := Nat.le_trans (List.takeWhile_prefix _).length_le ha
  have HB := Lib.hid (fun W => bareR_any (topS a) W htl)
  have hl1 := (canon_01 h3).2
  have hhead := head_of (s := topS a) (fun e => h1.1.2.1 (by rw [e]; rfl))
  have hblen := bare_le (topS a)
  clear ea k1 k2 h7
  generalize topS a = n at *
  generalize lowS a = d at *
  by_cases hd : d = [49]
  rotate_left
  · have hR : Hid (smallR a = (0, 2)) := by show _ = _; rw [hr, if_neg (fun h => hd (hl1.2 h.1))]
    have hdb : (d == [49]) = false := by rw [beq_eq_false_iff_ne]; exact hd
    have hdn : (d != [49]) = true := by rw [bne_iff_ne]; exact hd
    rw [hR.out]
    clear hr hl1 h1 h3 hd hhead hR
    go_enter Tryz.func49, Tryz.ntmps49
    go_wp2_with (first
      | (go_at_call 50; with_reducible refine HC.out.mono ?_; rintro e w1 ⟨rfl, hE0⟩)
      | ((go_at_call 82; (with_reducible refine (HS.out _).mono ?_); rintro e w1 ⟨rfl, hE⟩)))
    go_ret2
    exact ⟨rfl, hE0.trans hE⟩
  have hdb : (d == [49]) = true := by rw [hd]; rfl
  have hdn : (d != [49]) = false := by rw [hd]; rfl
  rw [hl1.1 hd] at hr
  clear hd hl1 h3
  obtain ⟨⟨hdig, hbne, hcan⟩, h0⟩ := h1
  rw [sgnD_int] at hr
  by_cases hlong : 19 < (bareS n).length
  · have hbig := long_big ⟨hdig, hbne, hcan⟩ hlong
    have hR : Hid (smallR a = (0, 2)) := by
      show _ = _
      rw [hr, if_neg]
      rintro ⟨_, k1, k2⟩
      have h19 : (10 : Nat) ^ 19 = 10000000000000000000 := by decide
      unfold sgnD at k1 k2
      cases hn : negS n with
      | true => rw [hn, if_pos rfl] at k1; omega
      | false => rw [hn, if_neg (by simp)] at k2; omega
    have hlt : (19 : Int) < ((bareS n).length : Int) := by omega
    rw [hR.out]
    clear hr hdig hbne hcan h0 hbig hR hhead
    generalize bareS n = b at *
    go_enter Tryz.func49, Tryz.ntmps49
    go_wp2_with (first
      | (go_at_call 50; with_reducible refine HC.out.mono ?_; rintro e w1 ⟨rfl, hE0⟩)
      | ((go_at_call 82; (with_reducible refine (HS.out _).mono ?_); rintro e w1 ⟨rfl, hE⟩))
      | (go_at_call 58; with_reducible refine (HB.out _).mono ?_; rintro e w' ⟨rfl, rfl⟩))
    go_ret2
    exact ⟨rfl, hE0.trans hE⟩
  have hnl : ¬ (19 : Int) < ((bareS n).length : Int) := by omega
  have hbl : (bareS n).length ≤ 19 := by omega
  have HR : Hid (smallR a = if -9223372036854775808 ≤ sgnD (negS n) (decV (bareS n)) ∧ sgnD (negS n) (decV (bareS n)) ≤ 9223372036854775807 then (sgnD (negS n) (decV (bareS n)), 0) else (0, 2)) := by
    show _ = _
    rw [hr]
    simp only [true_and]
  obtain ⟨c0, hget0, hc0, hpos0⟩ := hhead
  have hi0 : (0 : Int) < (n.length : Int) := by omega
  obtain ⟨R, hRR⟩ : ∃ R, R = smallR a := ⟨_, rfl⟩
  rw [← hRR] at HR ⊢
  have HDG := Lib.hid hdig
  clear hr hbne hcan h0 hlong hpos0 hRR hdig
  generalize bareS n = b at *
  cases hn : negS n with
  | false =>
    rw [hn] at hc0 HR
    clear hn
    go_enter Tryz.func49, Tryz.ntmps49
    go_wp2_with (first
      | (go_at_call 50; with_reducible refine HC.out.mono ?_; rintro e w1 ⟨rfl, hE0⟩)
      | ((go_at_call 82; (with_reducible refine (HS.out _).mono ?_); rintro e w1 ⟨rfl, hE⟩))
      | (go_at_call 58; with_reducible refine (HB.out _).mono ?_; rintro e w' ⟨rfl, rfl⟩))
    go_loop [7, 8] (fun o i => ∃ k m : Nat, k ≤ b.length ∧ o = .int .i64 m ∧ i = .int .i64 k ∧ Hid (m = decV (b.take k)) ∧ m ≤ 9223372036854775807) (fun _ i => b.length - (intOf i).toNat)
    case atStart => exact ⟨0, 0, by omega, rfl, rfl, rfl, by omega⟩
    case round =>
      obtain ⟨k, m, hk, rfl, rfl, HM, hm⟩ := hrel
      by_cases hlt : k < b.length
      · obtain ⟨c, hc⟩ : ∃ c, c = b[k]'hlt := ⟨_, rfl⟩
        have hgx : ∀ h, (⟨b.toArray⟩ : ByteArray)[k]'h = c := fun h => by rw [hc]; rfl
        have hcd : 48 ≤ c.toNat ∧ c.toNat ≤ 57 := HDG.out c (by rw [hc]; exact List.getElem_mem _)
        have hkl : (k : Int) < (b.length : Int) := by omega
        obtain ⟨dd, hdd⟩ : ∃ dd, dd = c.toNat - 48 := ⟨_, rfl⟩
        have hw1 : IntKind.u8.wrap ((c.toNat : Int) - 48) = (dd : Int) := by rw [IntKind.wrap_u8]; omega
        have hw2 : IntKind.i64.wrap (dd : Int) = (dd : Int) := by rw [IntKind.wrap_i64]; omega
        have hd9 : dd ≤ 9 := by omega
        have HM2 : Hid (10 * m + dd = decV (b.take (k + 1))) := by show _ = _; rw [decV_take hlt, ← HM.out, hdd, hc]
        have hmx : max (dd : Int) 0 = (dd : Int) := by omega
        have hmn : min (dd : Int) 0 = 0 := by omega
        have hB : -922337203685477580 ≤ (m : Int) := by omega
        have hq1 : wrap64 (9223372036854775807 - (dd : Int)) = 9223372036854775807 - (dd : Int) := wrap64_fit (by omega) (by omega)
        have hq : wrap64 ((wrap64 (9223372036854775807 - (dd : Int))).tdiv 10) = (9223372036854775807 - (dd : Int)) / 10 := by
          rw [hq1, Int.tdiv_eq_ediv_of_nonneg (by omega)]
          exact wrap64_fit (by omega) (by omega)
        by_cases hov : 10 * m + dd ≤ 9223372036854775807
        · have hA : ¬ wrap64 ((wrap64 (9223372036854775807 - (dd : Int))).tdiv 10) < (m : Int) := by rw [hq]; omega
          clear hc hdd hq hq1
          go_wp2_with (go_at_call 58; with_reducible refine (HB.out _).mono ?_; rintro e w' ⟨rfl, rfl⟩)
          exact ⟨⟨k + 1, 10 * m + dd, by omega, (by first | (congr 1; done) | (congr 1; omega)), by go_num, HM2, hov⟩, by simp [intOf]; omega⟩
        · have hA : wrap64 ((wrap64 (9223372036854775807 - (dd : Int))).tdiv 10) < (m : Int) := by rw [hq]; omega
          have HX : Hid (R = (0, 2)) := by
            show _ = _
            rw [HR.out, if_neg]
            rintro ⟨k1, k2⟩
            have h5 := decV_take_le b (k + 1)
            rw [← HM2.out] at h5
            unfold sgnD at k1 k2
            simp at k1 k2
            omega
          clear hc hdd hq hq1 HM2 HM HR
          go_wp2_with (go_at_call 58; with_reducible refine (HB.out _).mono ?_; rintro e w' ⟨rfl, rfl⟩)
          all_goals
            go_ret2
            exact ⟨by rw [HX.out]; rfl, hE0.trans hE⟩
      · have hkl : ¬ (k : Int) < (b.length : Int) := by omega
        have HX : Hid (R = ((m : Int), 0)) := by
          show _ = _
          have h5 := HM.out
          rw [List.take_of_length_le (by omega)] at h5
          rw [HR.out, ← h5]
          unfold sgnD
          rw [if_pos (by simp; omega)]
          simp
        clear HM HR
        go_wp2_with (go_at_call 58; with_reducible refine (HB.out _).mono ?_; rintro e w' ⟨rfl, rfl⟩)
        go_ret2
        exact ⟨by rw [HX.out]; rfl, hE0.trans hE⟩
  | true =>
    rw [hn] at hc0 HR
    clear hn
    go_enter Tryz.func49, Tryz.ntmps49
    go_wp2_with (first
      | (go_at_call 50; with_reducible refine HC.out.mono ?_; rintro e w1 ⟨rfl, hE0⟩)
      | ((go_at_call 82; (with_reducible refine (HS.out _).mono ?_); rintro e w1 ⟨rfl, hE⟩))
      | (go_at_call 58; with_reducible refine (HB.out _).mono ?_; rintro e w' ⟨rfl, rfl⟩))
    go_loop [7, 8] (fun o i => ∃ k m : Nat, k ≤ b.length ∧ o = .int .i64 (-(m : Int)) ∧ i = .int .i64 k ∧ Hid (m = decV (b.take k)) ∧ m ≤ 9223372036854775808) (fun _ i => b.length - (intOf i).toNat)
    case atStart => exact ⟨0, 0, by omega, rfl, rfl, rfl, by omega⟩
    case round =>
      obtain ⟨k, m, hk, rfl, rfl, HM, hm⟩ := hrel
      by_cases hlt : k < b.length
      · obtain ⟨c, hc⟩ : ∃ c, c = b[k]'hlt := ⟨_, rfl⟩
        have hgx : ∀ h, (⟨b.toArray⟩ : ByteArray)[k]'h = c := fun h => by rw [hc]; rfl
        have hcd : 48 ≤ c.toNat ∧ c.toNat ≤ 57 := HDG.out c (by rw [hc]; exact List.getElem_mem _)
        have hkl : (k : Int) < (b.length : Int) := by omega
        obtain ⟨dd, hdd⟩ : ∃ dd, dd = c.toNat - 48 := ⟨_, rfl⟩
        have hw1 : IntKind.u8.wrap ((c.toNat : Int) - 48) = (dd : Int) := by rw [IntKind.wrap_u8]; omega
        have hw2 : IntKind.i64.wrap (dd : Int) = (dd : Int) := by rw [IntKind.wrap_i64]; omega
        have hd9 : dd ≤ 9 := by omega
        have HM2 : Hid (10 * m + dd = decV (b.take (k + 1))) := by show _ = _; rw [decV_take hlt, ← HM.out, hdd, hc]
        have hw3 : IntKind.i64.wrap (-(dd : Int)) = -(dd : Int) := by rw [IntKind.wrap_i64]; omega
        have hmx : max (-(dd : Int)) 0 = 0 := by omega
        have hmn : min (-(dd : Int)) 0 = -(dd : Int) := by omega
        have hB : -(m : Int) ≤ 922337203685477580 := by omega
        have hq1 : wrap64 (-9223372036854775808 + (dd : Int)) = -(9223372036854775808 - (dd : Int)) := (wrap64_fit (by omega) (by omega)).trans (by omega)
        have hq2 : (-9223372036854775808 + (dd : Int)).tdiv 10 = -((9223372036854775808 - (dd : Int)) / 10) := by
          rw [show -9223372036854775808 + (dd : Int) = -(9223372036854775808 - (dd : Int)) by omega, Int.neg_tdiv, Int.tdiv_eq_ediv_of_nonneg (by omega)]
        have hq : wrap64 ((wrap64 (-9223372036854775808 + (dd : Int))).tdiv 10) = -((9223372036854775808 - (dd : Int)) / 10) := by
          rw [hq1, Int.neg_tdiv, Int.tdiv_eq_ediv_of_nonneg (by omega)]
          exact wrap64_fit (by omega) (by omega)
        by_cases hov : 10 * m + dd ≤ 9223372036854775808
        · have hA : ¬ -(m : Int) < wrap64 ((wrap64 (-9223372036854775808 + (dd : Int))).tdiv 10) := by rw [hq]; omega
          have hA2 : ¬ -(m : Int) < (-9223372036854775808 + (dd : Int)).tdiv 10 := by rw [hq2]; omega
          clear hc hdd hq hq1 hq2
          go_wp2_with (go_at_call 58; with_reducible refine (HB.out _).mono ?_; rintro e w' ⟨rfl, rfl⟩)
          exact ⟨⟨k + 1, 10 * m + dd, by omega, (by first | (congr 1; done) | (congr 1; omega)), by go_num, HM2, hov⟩, by simp [intOf]; omega⟩
        · have hA : -(m : Int) < wrap64 ((wrap64 (-9223372036854775808 + (dd : Int))).tdiv 10) := by rw [hq]; omega
          have hA2 : -(m : Int) < (-9223372036854775808 + (dd : Int)).tdiv 10 := by rw [hq2]; omega
          have HX : Hid (R = (0, 2)) := by
            show _ = _
            rw [HR.out, if_neg]
            rintro ⟨k1, k2⟩
            have h5 := decV_take_le b (k + 1)
            rw [← HM2.out] at h5
            unfold sgnD at k1 k2
            simp at k1 k2
            omega
          clear hc hdd hq hq1 hq2 HM2 HM HR
          go_wp2_with (go_at_call 58; with_reducible refine (HB.out _).mono ?_; rintro e w' ⟨rfl, rfl⟩)
          all_goals
            go_ret2
            exact ⟨by rw [HX.out]; rfl, hE0.trans hE⟩
      · have hkl : ¬ (k : Int) < (b.length : Int) := by omega
        have HX : Hid (R = (-(m : Int), 0)) := by
          show _ = _
          have h5 := HM.out
          rw [List.take_of_length_le (by omega)] at h5
          rw [HR.out, ← h5]
          unfold sgnD
          rw [if_pos (by simp; omega)]
          simp
        clear HM HR
        go_wp2_with (go_at_call 58; with_reducible refine (HB.out _).mono ?_; rintro e w' ⟨rfl, rfl⟩)
        go_ret2
        exact ⟨by rw [HX.out]; rfl, hE0.trans hE⟩
end Go.Proofs.YtpfanpkinlklnaaGreatDoor
/- The law's function FractionChecks. (Printed by genlawf.py.) -/
namespace Go.Proofs.YtpfanpkinlklnaaGreatDoor
open Go.RowKit
open Go.Lib (decDigits itoa)

set_option maxHeartbeats 8000000 in
set_option maxRecDepth 100000 in
theorem lawChecks_any (s : Txt) (w : World) (hG : Glob w) : Calls Tryz.prog 10 #[txt s] w (TrueP w) := by
  have HG := Lib.hid hG
  have HA : Hid (∀ W, Ext w W → Calls Tryz.prog 13 #[] W fun e w' => e = .returned (.bool true) ∧ Ext W w') := fun W h => awake_any W (HG.out.ext h)
  have HW1 := Lib.hid (fun W => fewR_any s W)
  clear hG
  unfold TrueP
  by_cases hs : s.length ≤ 180
  rotate_left
  · rw [decide_eq_false hs] at HW1
    clear hs
    have E := Ext.refl w
    go_enter Tryz.func10, Tryz.ntmps10
    go_wp2_with (go_at_call 12; first | (with_reducible refine (HW1.out _).mono ?_; rintro e w' ⟨rfl, rfl⟩))
    go_wp2_with (go_at_call 13; refine (HA.out _ E).mono ?_; rintro e w3 ⟨rfl, h⟩)
    go_ret
    exact ⟨rfl, h⟩
  rw [decide_eq_true hs] at HW1
  have HP0 : Hid (∀ W, Ext w W → Calls Tryz.prog 40 #[txt s] W (ParP (partsR s) W)) := fun W h => partsF_any s W (HG.out.ext h) (by omega)
  have HP1 : Hid (∀ W, Ext w W → Calls Tryz.prog 45 #[txt s] W (ParP (partsR s) W)) := fun W h => rParts_any s W (by omega)
  have HS0 : Hid (∀ W, Ext w W → Calls Tryz.prog 46 #[txt s] W (IntP (signS s).1 (signS s).2 W)) := fun W h => signF_any s W (HG.out.ext h) (by omega)
  have HS1 : Hid (∀ W, Ext w W → Calls Tryz.prog 47 #[txt s] W (IntP (signS s).1 (signS s).2 W)) := fun W h => rSign_any s W (by omega)
  have HM0 : Hid (∀ W, Ext w W → Calls Tryz.prog 48 #[txt s] W (IntP (smallR s).1 (smallR s).2 W)) := fun W h => smallF_any s W (HG.out.ext h) (by omega)
  have HM1 : Hid (∀ W, Ext w W → Calls Tryz.prog 49 #[txt s] W (IntP (smallR s).1 (smallR s).2 W)) := fun W h => rSmall_any s W (by omega)
  have HX0 : Hid (∀ W, Ext w W → Calls Tryz.prog 44 #[txt s] W (fun e w' => e = .returned (.int .i64 (fracE s : Nat)) ∧ Ext W w')) := fun W h => check_any s W (HG.out.ext h) (by omega)
  have HX1 : Hid (∀ W, Ext w W → Calls Tryz.prog 50 #[txt s] W (fun e w' => e = .returned (.int .i64 (fracE s : Nat)) ∧ Ext W w')) := fun W h => checkR_any s W (by omega)
  unfold ParP at HP0 HP1
  unfold IntP at HS0 HS1
  unfold IntP at HM0 HM1
  generalize partsR s = P at *
  generalize signS s = S at *
  generalize smallR s = M at *
  generalize fracE s = X at *
  have bP := beq_self P.1
  have cP := beq_self P.2.1
  clear hs
  have E := Ext.refl w
  go_enter Tryz.func10, Tryz.ntmps10
  go_wp2_with (go_at_call 12; first | (with_reducible refine (HW1.out _).mono ?_; rintro e w' ⟨rfl, rfl⟩))
  go_wp2_with (go_at_call 40; refine (HP0.out _ E).mono ?_; rintro e w1 ⟨rfl, h⟩)
  replace E := E.trans h
  clear h
  go_wp2_with (go_at_call 45; refine (HP1.out _ E).mono ?_; rintro e w2 ⟨rfl, h⟩)
  replace E := E.trans h
  clear h
  go_wp2_with (go_at_call 46; refine (HS0.out _ E).mono ?_; rintro e w3 ⟨rfl, h⟩)
  replace E := E.trans h
  clear h
  go_wp2_with (go_at_call 47; refine (HS1.out _ E).mono ?_; rintro e w4 ⟨rfl, h⟩)
  replace E := E.trans h
  clear h
  go_wp2_with (go_at_call 48; refine (HM0.out _ E).mono ?_; rintro e w5 ⟨rfl, h⟩)
  replace E := E.trans h
  clear h
  go_wp2_with (go_at_call 49; refine (HM1.out _ E).mono ?_; rintro e w6 ⟨rfl, h⟩)
  replace E := E.trans h
  clear h
  go_wp2_with (go_at_call 13; refine (HA.out _ E).mono ?_; rintro e w7 ⟨rfl, h⟩)
  replace E := E.trans h
  clear h
  go_wp2_with (go_at_call 44; refine (HX0.out _ E).mono ?_; rintro e w8 ⟨rfl, h⟩)
  replace E := E.trans h
  clear h
  go_wp2_with (go_at_call 50; refine (HX1.out _ E).mono ?_; rintro e w9 ⟨rfl, h⟩)
  replace E := E.trans h
  clear h
  go_wp2
  go_ret
  exact ⟨rfl, E⟩
end Go.Proofs.YtpfanpkinlklnaaGreatDoor
