/- Steps of the proof: FLMak, FRing, FRefS, FSumR, FOpsR, FSums. No conditions. -/
import Derived.Test.YtpfanpkinlklnaaGreatDoorZFB1
import Derived.Test.YtpfanpkinlklnaaGreatDoorZFB2
import Derived.Test.YtpfanpkinlklnaaGreatDoorZFB3
import Derived.Test.YtpfanpkinlklnaaGreatDoorZFB4
import Derived.Test.YtpfanpkinlklnaaGreatDoorZFB5
import Derived.Test.YtpfanpkinlklnaaGreatDoorZFB6
import Derived.Test.YtpfanpkinlklnaaGreatDoorZFB7
import Derived.Test.YtpfanpkinlklnaaGreatDoorZFB8
import Derived.Test.YtpfanpkinlklnaaGreatDoorZFB9
import Derived.Test.YtpfanpkinlklnaaGreatDoorZFB10
import Derived.Test.YtpfanpkinlklnaaGreatDoorZFB11
/- The laws' functions FractionMakes and FractionCounts. -/
namespace Go.Proofs.YtpfanpkinlklnaaGreatDoor
open Go.RowKit
open Go.Lib (decDigits itoa)

theorem beq_self (l : Txt) : (l == l) = true := beq_self_eq_true l
/-- the law's function answers true -/
def TrueP (w : World) (e : Ending) (w' : World) : Prop := e = .returned (.bool true) ∧ Ext w w'
set_option maxHeartbeats 4000000 in
set_option maxRecDepth 100000 in
theorem lawMakes_any (s t : Txt) (w : World) (hG : Glob w) : Calls Tryz.prog 3 #[txt s, txt t] w (TrueP w) := by
  have HG := Lib.hid hG
  have HA : Hid (∀ W, Ext w W → Calls Tryz.prog 13 #[] W fun e w' => e = .returned (.bool true) ∧ Ext W w') := fun W h => awake_any W (HG.out.ext h)
  have HF1 := Lib.hid (fun W => fewR_any s W)
  have HF2 := Lib.hid (fun W => fewR_any t W)
  clear hG
  unfold TrueP
  by_cases hs : s.length ≤ 180
  · rw [decide_eq_true hs] at HF1
    by_cases ht : t.length ≤ 180
    · rw [decide_eq_true ht] at HF2
      have HM : Hid (∀ W, Ext w W → Calls Tryz.prog 14 #[txt s, txt t] W (ResP (makeR s t) W)) := fun W h => make_any s t W (HG.out.ext h) (by omega) (by omega)
      have HR : Hid (∀ W, Calls Tryz.prog 15 #[txt s, txt t] W (ResP (makeR s t) W)) := fun W => makeR_any s t W (by omega) (by omega)
      unfold ResP at HM HR
      generalize makeR s t = R at *
      clear hs ht
      have E := Ext.refl w
      go_enter Tryz.func3, Tryz.ntmps3
      go_wp2_with (go_at_call 12; first | (with_reducible refine (HF1.out _).mono ?_; rintro e w' ⟨rfl, rfl⟩) | (with_reducible refine (HF2.out _).mono ?_; rintro e w' ⟨rfl, rfl⟩))
      go_wp2_with (go_at_call 14; refine (HM.out _ E).mono ?_; rintro e w1 ⟨rfl, h⟩)
      replace E := E.trans h
      clear h
      go_wp2_with (go_at_call 15; refine (HR.out _).mono ?_; rintro e w2 ⟨rfl, h⟩)
      replace E := E.trans h
      clear h
      go_wp2_with (go_at_call 13; refine (HA.out _ E).mono ?_; rintro e w3 ⟨rfl, h⟩)
      have hb := beq_self R.1
      go_wp2
      go_ret
      exact ⟨rfl, E.trans h⟩
    · rw [decide_eq_false ht] at HF2
      clear hs ht
      have E := Ext.refl w
      go_enter Tryz.func3, Tryz.ntmps3
      go_wp2_with (go_at_call 12; first | (with_reducible refine (HF1.out _).mono ?_; rintro e w' ⟨rfl, rfl⟩) | (with_reducible refine (HF2.out _).mono ?_; rintro e w' ⟨rfl, rfl⟩))
      go_wp2_with (go_at_call 13; refine (HA.out _ E).mono ?_; rintro e w3 ⟨rfl, h⟩)
      go_ret
      exact ⟨rfl, h⟩
  · rw [decide_eq_false hs] at HF1
    clear hs
    have E := Ext.refl w
    go_enter Tryz.func3, Tryz.ntmps3
    go_wp2_with (go_at_call 12; (with_reducible refine (HF1.out _).mono ?_; rintro e w' ⟨rfl, rfl⟩))
    go_wp2_with (go_at_call 13; refine (HA.out _ E).mono ?_; rintro e w3 ⟨rfl, h⟩)
    go_ret
    exact ⟨rfl, h⟩
set_option maxHeartbeats 4000000 in
set_option maxRecDepth 100000 in
theorem lawCounts_any (m n : Int) (w : World) (hG : Glob w) (h1 : -9223372036854775808 ≤ m) (h2 : m ≤ 9223372036854775807) (h3 : -9223372036854775808 ≤ n) (h4 : n ≤ 9223372036854775807) :
    Calls Tryz.prog 4 #[.int .i64 m, .int .i64 n] w (TrueP w) := by
  have HG := Lib.hid hG
  have HA : Hid (∀ W, Ext w W → Calls Tryz.prog 13 #[] W fun e w' => e = .returned (.bool true) ∧ Ext W w') := fun W h => awake_any W (HG.out.ext h)
  have HM : Hid (∀ W, Ext w W → Calls Tryz.prog 16 #[.int .i64 m, .int .i64 n] W (ResP (makeR (itoa m) (itoa n)) W)) := fun W h => of_any m n W (HG.out.ext h) h1 h2 h3 h4
  have HR : Hid (∀ W, Calls Tryz.prog 17 #[.int .i64 m, .int .i64 n] W (ResP (makeR (itoa m) (itoa n)) W)) := fun W => ofR_any m n W h1 h2 h3 h4
  have HW1 : Hid (∀ W, Ext w W → Calls Tryz.prog 18 #[.int .i64 m] W fun e w' => e = .returned (txt (itoa m)) ∧ Ext W w') := fun W h => whole_any m W (HG.out.ext h) h1 h2
  have HW2 : Hid (∀ W, Calls Tryz.prog 19 #[.int .i64 m] W fun e w' => e = .returned (txt (itoa m)) ∧ Ext W w') := fun W => wholeR_any m W h1 h2
  clear hG
  unfold ResP at HM HR
  unfold TrueP
  generalize makeR (itoa m) (itoa n) = R at *
  have E := Ext.refl w
  go_enter Tryz.func4, Tryz.ntmps4
  go_wp2_with (go_at_call 16; refine (HM.out _ E).mono ?_; rintro e w1 ⟨rfl, h⟩)
  replace E := E.trans h
  clear h
  go_wp2_with (go_at_call 17; refine (HR.out _).mono ?_; rintro e w2 ⟨rfl, h⟩)
  replace E := E.trans h
  clear h
  have hb := beq_self R.1
  have hb2 := beq_self (itoa m)
  generalize itoa m = tm at *
  go_wp2_with (go_at_call 13; refine (HA.out _ E).mono ?_; rintro e w3 ⟨rfl, h⟩)
  replace E := E.trans h
  clear h
  go_wp2_with (go_at_call 18; refine (HW1.out _ E).mono ?_; rintro e w4 ⟨rfl, h⟩)
  replace E := E.trans h
  clear h
  go_wp2_with (go_at_call 19; refine (HW2.out _).mono ?_; rintro e w5 ⟨rfl, h⟩)
  replace E := E.trans h
  clear h
  go_wp2
  go_ret
  exact ⟨rfl, E⟩
end Go.Proofs.YtpfanpkinlklnaaGreatDoor
/- The laws of the layer of fractions, in plain terms. No program in sight. -/
namespace Go.Proofs.YtpfanpkinlklnaaGreatDoor
open Go.Lib (decDigits itoa)

/-- a right text of a value that is not long -/
structure Good (K : Nat) (t : Txt) (q : Rat) : Prop where
  ok : fracE t = 0
  val : fracQ t = q
  fit : FitB K q
theorem Good.short {a : Txt} (h : fracE a = 0) (hl : a.length ≤ 10) : Good 10 a (fracQ a) := ⟨h, rfl, short_fit h hl⟩
theorem Good.of {K : Nat} {q : Rat} (h : FitB K q) (hK : K ≤ 60) : resQ q = (fracT q, 0) ∧ Good K (fracT q) q := by
  obtain ⟨h1, h2⟩ := made_fit (h.fit hK)
  obtain ⟨h3, h4⟩ := frac_of (h.fit hK)
  exact ⟨by unfold resQ; rw [h1, h2], ⟨h3, h4, h⟩⟩
theorem Good.both {K L : Nat} {s t : Txt} {q r : Rat} (h : Good K s q) (k : Good L t r) : bothE s t = 0 := by
  unfold bothE; rw [if_pos h.ok]; exact k.ok
theorem Good.add {K L : Nat} {s t : Txt} {q r : Rat} (h : Good K s q) (k : Good L t r) (hK : K + L + 1 ≤ 60) : addS s t = (fracT (q + r), 0) ∧ Good (K + L + 1) (fracT (q + r)) (q + r) := by
  obtain ⟨h1, h2⟩ := Good.of (h.fit.add k.fit) hK
  refine ⟨?_, h2⟩
  unfold addS ifOk
  rw [if_pos (h.both k), h.val, k.val, h1]
theorem Good.sub {K L : Nat} {s t : Txt} {q r : Rat} (h : Good K s q) (k : Good L t r) (hK : K + L + 1 ≤ 60) : subS s t = (fracT (q - r), 0) ∧ Good (K + L + 1) (fracT (q - r)) (q - r) := by
  obtain ⟨h1, h2⟩ := Good.of (h.fit.sub k.fit) hK
  refine ⟨?_, h2⟩
  unfold subS ifOk
  rw [if_pos (h.both k), h.val, k.val, h1]
theorem Good.mul {K L : Nat} {s t : Txt} {q r : Rat} (h : Good K s q) (k : Good L t r) (hK : K + L ≤ 60) : mulS s t = (fracT (q * r), 0) ∧ Good (K + L) (fracT (q * r)) (q * r) := by
  obtain ⟨h1, h2⟩ := Good.of (h.fit.mul k.fit) hK
  refine ⟨?_, h2⟩
  unfold mulS ifOk
  rw [if_pos (h.both k), h.val, k.val, h1]
theorem int_good {n : Int} {K : Nat} (hK : 0 < K) (h60 : K ≤ 60) (h : n.natAbs < 10 ^ K) : Good K (itoa n) (n : Rat) := by
  rw [← fracT_int]
  exact (Good.of (fit_int hK h) h60).2
theorem zero_good : Good 1 [48] 0 := by
  have h := int_good (n := 0) (K := 1) (by omega) (by omega) (by decide)
  rwa [show itoa 0 = [48] from (Go.Lib.itoa_nonneg 0).trans (digits_small (by omega)), Rat.intCast_zero] at h
theorem one_good : Good 1 [49] 1 := by
  have h := int_good (n := 1) (K := 1) (by omega) (by omega) (by decide)
  rwa [show itoa 1 = [49] from (Go.Lib.itoa_nonneg 1).trans (digits_small (by omega)), Rat.intCast_one] at h
theorem Good.inj {K L : Nat} {s t : Txt} {q : Rat} (h : Good K s q) (k : Good L t q) : s = t := frac_inj h.ok k.ok (h.val.trans k.val.symm)
theorem Good.zero {K : Nat} {s : Txt} {q : Rat} (h : Good K s q) : s = [48] ↔ q = 0 := by
  constructor
  · rintro rfl; rw [← h.val]; exact zero_good.val
  · rintro rfl; exact h.inj zero_good
theorem Good.div {K L : Nat} {s t : Txt} {q r : Rat} (h : Good K s q) (k : Good L t r) (hK : K + (L + 1) ≤ 60) (hr : r ≠ 0) : divS s t = (fracT (q / r), 0) ∧ Good (K + (L + 1)) (fracT (q / r)) (q / r) := by
  obtain ⟨h1, h2⟩ := Good.of (h.fit.div k.fit) hK
  refine ⟨?_, h2⟩
  unfold divS ifOk
  rw [if_pos (h.both k), if_neg (fun e => hr (k.zero.1 e)), h.val, k.val, h1]
theorem Good.neg {K : Nat} {s : Txt} {q : Rat} (h : Good K s q) (hK : K ≤ 60) : negR s = (fracT (-q), 0) ∧ Good K (fracT (-q)) (-q) := by
  refine ⟨?_, (Good.of h.fit.neg hK).2⟩
  unfold negR ifOk
  rw [if_pos h.ok, h.val]
theorem Good.floor {K : Nat} {s : Txt} {q : Rat} (h : Good K s q) (h0 : 0 < K) (hK : K ≤ 60) : floorR s = (itoa q.floor, 0) ∧ Good K (itoa q.floor) (q.floor : Rat) := by
  have h1 := int_good h0 hK (Nat.lt_of_le_of_lt (floor_abs q) h.fit.1)
  refine ⟨?_, h1⟩
  unfold floorR ifOk
  rw [if_pos h.ok, h.val, (Good.of h1.fit hK).1, fracT_int]
theorem Good.ceil {K : Nat} {s : Txt} {q : Rat} (h : Good K s q) (h0 : 0 < K) (hK : K ≤ 60) : ceilR s = (itoa q.ceil, 0) ∧ Good K (itoa q.ceil) (q.ceil : Rat) := by
  have h1 := int_good h0 hK (Nat.lt_of_le_of_lt (ceil_abs q) h.fit.1)
  refine ⟨?_, h1⟩
  unfold ceilR ifOk
  rw [if_pos h.ok, h.val, (Good.of h1.fit hK).1, fracT_int]
theorem Good.cmp {K L : Nat} {s t : Txt} {q r : Rat} (h : Good K s q) (k : Good L t r) : cmpS s t = ((q - r).num.sign, 0) := by
  unfold cmpS ifOk
  rw [if_pos (h.both k), h.val, k.val]
theorem Good.sign {K : Nat} {s : Txt} {q : Rat} (h : Good K s q) : signS s = (q.num.sign, 0) := by
  unfold signS ifOk
  rw [if_pos h.ok, h.val]
theorem Good.small {n : Int} (h : n.natAbs < 10 ^ 10) : smallR (itoa n) = (n, 0) := by
  have k := int_good (by omega) (by omega) h
  unfold smallR ifOk
  rw [if_pos k.ok, k.val, Rat.num_intCast, Rat.den_intCast, if_pos]
  have : (10 : Nat) ^ 10 = 10000000000 := by decide
  exact ⟨rfl, by omega, by omega⟩

/-! ### The laws -/
theorem law_swap (q r : Rat) : fracT (r + q) = fracT (q + r) ∧ fracT (r * q) = fracT (q * r) := by
  rw [Rat.add_comm, Rat.mul_comm]; exact ⟨rfl, rfl⟩
theorem law_undo (q r : Rat) : q + r - r = q := Rat.add_sub_cancel
theorem law_rest (q : Rat) : q + -q = 0 := Rat.add_neg_cancel q
/-- the differences of a fraction, its floor and its ceiling -/
theorem law_gap {a : Txt} {q : Rat} (h : Good 10 a q) : (fracT ((q.ceil : Rat) - (q.floor : Rat)) = [48] ∧ itoa q.floor = a) ∨
    (fracT ((q.ceil : Rat) - (q.floor : Rat)) = [49] ∧ ((q.floor : Rat) - q).num.sign < 0 ∧ (q - (q.ceil : Rat)).num.sign < 0) := by
  have e : (q.ceil : Rat) - (q.floor : Rat) = ((q.ceil - q.floor : Int) : Rat) := (Rat.intCast_sub _ _).symm
  rcases floor_ceil q with ⟨h1, h2⟩ | ⟨h1, h2, h3⟩
  · left
    rw [e, h1, fracT_int]
    refine ⟨(Go.Lib.itoa_nonneg 0).trans (digits_small (by omega)), ?_⟩
    have k := (h.floor (by omega) (by omega)).2
    rw [h2] at k
    exact k.inj h
  · right
    rw [e, h1, fracT_int]
    exact ⟨(Go.Lib.itoa_nonneg 1).trans (digits_small (by omega)), sgn_lt.2 h2, sgn_lt.2 h3⟩
end Go.Proofs.YtpfanpkinlklnaaGreatDoor
/- The reference's Short, Signum, Sign, both and Parts. -/
namespace Go.Proofs.YtpfanpkinlklnaaGreatDoor
open Go.RowKit
open Go.Lib (decDigits itoa)

theorem head_of {s : Txt} (hne : s ≠ []) : ∃ c, (∀ k, (⟨s.toArray⟩ : ByteArray)[0]'k = c) ∧ ((c.toNat : Int) == 45) = negS s ∧ 0 < s.length := by
  obtain ⟨c, m, hcm⟩ := List.exists_cons_of_ne_nil hne
  exact ⟨c, fun _ => by subst hcm; rfl, head_neg hcm, by rw [hcm]; simp⟩
theorem Good.any {a : Txt} (h : fracE a = 0) : Good 60 a (fracQ a) := ⟨h, rfl, frac_fit h⟩
theorem neg_top {a : Txt} (h : fracE a = 0) : a ≠ [] ∧ negS a = negS (topS a) := by
  obtain ⟨h1, _⟩ := frac_parts h
  have hne : topS a ≠ [] := fun e => h1.1.2.1 (by rw [e]; rfl)
  by_cases hs : 47 ∈ a
  · have e := split_some hs
    generalize topS a = t at *
    obtain ⟨c, m, rfl⟩ := List.exists_cons_of_ne_nil hne
    rw [e]
    exact ⟨by simp, rfl⟩
  · obtain ⟨e, _⟩ := split_none hs
    rw [e] at hne ⊢
    exact ⟨hne, rfl⟩
theorem signum_eq {a : Txt} (h : fracE a = 0) : (fracQ a).num.sign = if negS a then -1 else if a = [48] then 0 else 1 := by
  obtain ⟨h1, _⟩ := frac_parts h
  obtain ⟨_, h2⟩ := neg_top h
  have h3 := (frac_num h).1
  have h4 := neg_int h1
  rw [← h2] at h4
  by_cases hn : negS a = true
  · rw [if_pos hn]
    rw [hn, decide_eq_true_eq] at h4
    rw [h3]
    exact Int.sign_eq_neg_one_of_neg h4
  · rw [if_neg hn]
    have h5 : negS a = false := by simpa using hn
    rw [h5, decide_eq_false_iff_not] at h4
    by_cases h0 : a = [48]
    · rw [if_pos h0, ((Good.any h).zero).1 h0]; rfl
    · rw [if_neg h0]
      refine Int.sign_eq_one_of_pos ?_
      have h6 : (fracQ a).num ≠ 0 := fun e => h0 ((Good.any h).zero.2 (Rat.num_eq_zero.1 e))
      omega

set_option maxHeartbeats 2000000 in
theorem rShort_any (s : Txt) (w : World) : Calls Tryz.prog 80 #[txt s] w fun e w' => e = .returned (.bool (decide (s.length ≤ 10))) ∧ w' = w := by
  have HB : Hid (decide ((s.length : Int) ≤ 10) = decide (s.length ≤ 10)) := by
    show _ = _
    exact decide_eq_decide.2 (by omega)
  go_enter Tryz.func80, Tryz.ntmps80
  go_wp2
  go_ret
  exact ⟨ret_bool HB.out, rfl⟩
set_option maxHeartbeats 2000000 in
theorem rSignum_any (a : Txt) (w : World) (hf : fracE a = 0) : Calls Tryz.prog 83 #[txt a] w fun e w' => e = .returned (.int .i64 (fracQ a).num.sign) ∧ w' = w := by
  have HS := Lib.hid (signum_eq hf)
  obtain ⟨c, hget, hc, hpos⟩ := head_of (neg_top hf).1
  have hi : (0 : Int) < (a.length : Int) := by omega
  rw [HS.out]
  clear HS hf
  by_cases hn : negS a = true
  · rw [if_pos hn]
    rw [hn] at hc
    clear hn
    go_enter Tryz.func83, Tryz.ntmps83
    go_wp2
    go_ret
    exact ⟨rfl, rfl⟩
  · rw [if_neg hn]
    have h5 : negS a = false := by simpa using hn
    rw [h5] at hc
    clear hn h5
    by_cases h0 : a = [48]
    · rw [if_pos h0]
      have hz : (a == [48]) = true := by rw [h0]; rfl
      clear h0
      go_enter Tryz.func83, Tryz.ntmps83
      go_wp2
      go_ret
      exact ⟨rfl, rfl⟩
    · rw [if_neg h0]
      have hz : (a == [48]) = false := by rw [beq_eq_false_iff_ne]; exact h0
      clear h0
      go_enter Tryz.func83, Tryz.ntmps83
      go_wp2
      go_ret
      exact ⟨rfl, rfl⟩
set_option maxHeartbeats 2000000 in
theorem rSign_any (a : Txt) (w : World) (hl : a.length ≤ 400) : Calls Tryz.prog 47 #[txt a] w (IntP (signS a).1 (signS a).2 w) := by
  have HC := Lib.hid (checkR_any a w hl)
  unfold IntP
  by_cases ea : fracE a = 0
  · have HR : Hid (signS a = ((fracQ a).num.sign, 0)) := by show _ = _; unfold signS ifOk; rw [if_pos ea]
    have HS := Lib.hid (fun W => rSignum_any a W ea)
    rw [ea] at HC
    rw [HR.out]
    clear ea HR
    go_enter Tryz.func47, Tryz.ntmps47
    go_wp2_with (first
      | (go_at_call 50; refine HC.out.mono ?_; rintro e w1 ⟨rfl, hE⟩)
      | (go_at_call 83; refine (HS.out _).mono ?_; rintro e w' ⟨rfl, rfl⟩))
    go_ret2
    exact ⟨rfl, hE⟩
  · have HR : Hid (signS a = (0, fracE a)) := by show _ = _; unfold signS ifOk; rw [if_neg ea]
    have hne : (((fracE a : Nat) : Int) != 0) = true := by rw [bne_iff_ne]; omega
    rw [HR.out]
    clear ea HR
    generalize fracE a = n at *
    go_enter Tryz.func47, Tryz.ntmps47
    go_wp2_with (go_at_call 50; refine HC.out.mono ?_; rintro e w1 ⟨rfl, hE⟩)
    go_ret2
    exact ⟨rfl, hE⟩
set_option maxHeartbeats 2000000 in
theorem rBoth_any (a b : Txt) (w : World) (ha : a.length ≤ 400) (hb : b.length ≤ 400) :
    Calls Tryz.prog 70 #[txt a, txt b] w fun e w' => e = .returned (.int .i64 (bothE a b : Nat)) ∧ Ext w w' := by
  have HC := Lib.hid (checkR_any a w ha)
  have HD := Lib.hid (fun W => checkR_any b W hb)
  unfold bothE
  by_cases ea : fracE a = 0
  · rw [if_pos ea]
    rw [ea] at HC
    clear ea
    go_enter Tryz.func70, Tryz.ntmps70
    go_wp2_with (first
      | (go_at_call 50; with_reducible refine HC.out.mono ?_; rintro e w1 ⟨rfl, hE⟩)
      | (go_at_call 50; with_reducible refine (HD.out _).mono ?_; rintro e w2 ⟨rfl, hE2⟩))
    go_ret
    exact ⟨rfl, hE.trans hE2⟩
  · rw [if_neg ea]
    have hne : (((fracE a : Nat) : Int) != 0) = true := by rw [bne_iff_ne]; omega
    clear ea
    generalize fracE a = n at *
    go_enter Tryz.func70, Tryz.ntmps70
    go_wp2_with (go_at_call 50; with_reducible refine HC.out.mono ?_; rintro e w1 ⟨rfl, hE⟩)
    go_ret
    exact ⟨rfl, hE⟩
/-- two texts and the number of an error are returned -/
def ParP (r : Txt × Txt × Nat) (w : World) (e : Ending) (w' : World) : Prop := e = .returned (.tuple #[txt r.1, txt r.2.1, .int .i64 (r.2.2 : Nat)]) ∧ Ext w w'
theorem parts_ok {a : Txt} (h : fracE a = 0) : partsR a = (topS a, lowS a, 0) := by unfold partsR ifOk; rw [if_pos h]
theorem parts_bad {a : Txt} (h : fracE a ≠ 0) : partsR a = ([], [], fracE a) := by unfold partsR ifOk; rw [if_neg h]
set_option maxHeartbeats 2000000 in
theorem rParts_any (a : Txt) (w : World) (hl : a.length ≤ 400) : Calls Tryz.prog 45 #[txt a] w (ParP (partsR a) w) := by
  have HC := Lib.hid (checkR_any a w hl)
  have HS := Lib.hid (fun W => splitR_any a W hl)
  unfold ParP
  by_cases ea : fracE a = 0
  · rw [parts_ok ea]
    rw [ea] at HC
    clear ea
    generalize topS a = n at *
    generalize lowS a = d at *
    go_enter Tryz.func45, Tryz.ntmps45
    go_wp2_with (first
      | (go_at_call 50; with_reducible refine HC.out.mono ?_; rintro e w1 ⟨rfl, hE0⟩)
      | ((go_at_call 82; (with_reducible refine (HS.out _).mono ?_); rintro e w1 ⟨rfl, hE⟩)))
    go_ret3
    exact ⟨rfl, hE0.trans hE⟩
  · rw [parts_bad ea]
    have hne : (((fracE a : Nat) : Int) != 0) = true := by rw [bne_iff_ne]; omega
    clear ea HS
    generalize fracE a = n at *
    go_enter Tryz.func45, Tryz.ntmps45
    go_wp2_with (go_at_call 50; with_reducible refine HC.out.mono ?_; rintro e w1 ⟨rfl, hE⟩)
    go_ret3
    exact ⟨rfl, hE⟩
end Go.Proofs.YtpfanpkinlklnaaGreatDoor
/- Numbers of the reference: turned, upside, product and sum. -/
namespace Go.Proofs.YtpfanpkinlklnaaGreatDoor
open Go.RowKit
open Go.Lib (decDigits itoa)

def LenR (k : Nat) (x : Num) : Prop := (toB 1000000 x.2.1).length ≤ k ∧ (toB 1000000 x.2.2).length ≤ k
theorem LenR.mono {k l : Nat} {x : Num} (h : LenR k x) (hk : k ≤ l) : LenR l x := ⟨Nat.le_trans h.1 hk, Nat.le_trans h.2 hk⟩
theorem mul_lenR {x y m n : Nat} (hx : (toB 1000000 x).length ≤ m) (hy : (toB 1000000 y).length ≤ n) : (toB 1000000 (x * y)).length ≤ m + n := by
  have lt : ∀ {z k : Nat}, (toB 1000000 z).length ≤ k → z < 1000000 ^ k := fun {z k} h => by
    have h1 := valB_lt (okB_toB (B := 1000000) (by omega) z)
    rw [valB_toB (by omega)] at h1
    exact Nat.lt_of_lt_of_le h1 (Nat.pow_le_pow_right (by omega) h)
  refine toB_len (by omega) _ ?_
  rw [Nat.pow_add]
  exact Nat.mul_lt_mul'' (lt hx) (lt hy)
/-- 1 divided by a number that is not 0 -/
def upN (x : Num) : Num := (x.1, x.2.2, x.2.1)

set_option maxHeartbeats 2000000 in
theorem rTurn_any (x : Num) (v : Value) (w : World) (hv : NumR w v x) : Calls Tryz.prog 72 #[v] w (NumPost (negN x) w) := by
  obtain ⟨ta, tc, ba, bc, rfl, h1, h2⟩ := hv
  obtain ⟨s, t, d⟩ := x
  have H1 := Lib.hid h1
  have H2 := Lib.hid h2
  dsimp only at H1 H2 ⊢
  clear h1 h2
  have HN : Hid (∀ W, Ext w W → NumPost (negN (s, t, d)) w (.returned (.agg #[.bool (!s), .slice ta (toB 1000000 t).length tc, .slice ba (toB 1000000 d).length bc])) W) := fun W hW => ⟨_, rfl, ⟨ta, tc, ba, bc, rfl, H1.out.ext hW, H2.out.ext hW⟩, hW⟩
  generalize toB 1000000 t = lt at *
  generalize toB 1000000 d = ld at *
  go_enter Tryz.func72, Tryz.ntmps72
  go_wp2
  refine bodyPost_ret (v := .agg #[.bool (!s), .slice ta lt.length tc, .slice ba ld.length bc]) (by rw [results_cell1 rfl]; go_simp) rfl ?_
  exact HN.out _ (by repeat (first | with_reducible exact Ext.refl _ | with_reducible assumption | with_reducible apply Ext.drewN | with_reducible apply Ext.drew | with_reducible apply Ext.alloc | ((with_reducible refine Ext.set ?_ ?_ _); rotate_left; first | omega | (simp; omega)) | (with_reducible refine Ext.trans ?_ (by with_reducible assumption))))
set_option maxHeartbeats 2000000 in
theorem rUp_any (x : Num) (v : Value) (w : World) (hv : NumR w v x) : Calls Tryz.prog 74 #[v] w (NumPost (upN x) w) := by
  obtain ⟨ta, tc, ba, bc, rfl, h1, h2⟩ := hv
  obtain ⟨s, t, d⟩ := x
  have H1 := Lib.hid h1
  have H2 := Lib.hid h2
  dsimp only at H1 H2 ⊢
  clear h1 h2
  have HN : Hid (∀ W, Ext w W → NumPost (upN (s, t, d)) w (.returned (.agg #[.bool s, .slice ba (toB 1000000 d).length bc, .slice ta (toB 1000000 t).length tc])) W) := fun W hW => ⟨_, rfl, ⟨ba, bc, ta, tc, rfl, H2.out.ext hW, H1.out.ext hW⟩, hW⟩
  generalize toB 1000000 t = lt at *
  generalize toB 1000000 d = ld at *
  go_enter Tryz.func74, Tryz.ntmps74
  go_wp2
  refine bodyPost_ret (v := .agg #[.bool s, .slice ba ld.length bc, .slice ta lt.length tc]) (by rw [results_cell1 rfl]; go_simp) rfl ?_
  exact HN.out _ (by repeat (first | with_reducible exact Ext.refl _ | with_reducible assumption | with_reducible apply Ext.drewN | with_reducible apply Ext.drew | with_reducible apply Ext.alloc | ((with_reducible refine Ext.set ?_ ?_ _); rotate_left; first | omega | (simp; omega)) | (with_reducible refine Ext.trans ?_ (by with_reducible assumption))))
/-- limbs that are new -/
def NewBR (x : Nat) (w : World) (e : Ending) (w' : World) : Prop := ∃ a c, e = .returned (.slice a (toB 1000000 x).length c) ∧ CellsN .i64 w' a (toB 1000000 x) ∧ (∀ p, a = some p → w.heap.size ≤ p.block) ∧ Ext w w'
theorem OwnNPost.newBR {x : Nat} {w : World} {e : Ending} {w' : World} (h : OwnNPost .i64 3 (toB 1000000 x) w e w') : NewBR x w e w' := by
  obtain ⟨v, h1, h2, h3, h4⟩ := h
  obtain ⟨a, c, rfl, h5, _⟩ := h2.reads
  exact ⟨a, c, h1, h5, (fun p hp => h3 p.block (by rw [hp]; rfl)), h4⟩

set_option maxHeartbeats 8000000 in
set_option maxRecDepth 100000 in
theorem rProd_any (x y : Num) (v u : Value) (w : World) (hv : NumR w v x) (hu : NumR w u y) (hx : LenR 40 x) (hy : LenR 40 y) :
    Calls Tryz.prog 73 #[v, u] w (NumPost (mulN x y) w) := by
  obtain ⟨ta, tc, ba, bc, rfl, h1, h2⟩ := hv
  obtain ⟨ua, uc, va, vc, rfl, h3, h4⟩ := hu
  obtain ⟨s, t, d⟩ := x
  obtain ⟨r, p, q⟩ := y
  obtain ⟨l1, l2⟩ := hx
  obtain ⟨l3, l4⟩ := hy
  dsimp only at h1 h2 h3 h4 l1 l2 l3 l4 ⊢
  have HT1 := Lib.hid (fun W (hW : Ext w W) => (timesR_any t p _ _ ta ua tc uc W rfl rfl (by omega) (by omega) (h1.ext hW) (h3.ext hW)).mono fun _ _ h => h.newBR)
  have HT2 := Lib.hid (fun W (hW : Ext w W) => (timesR_any d q _ _ ba va bc vc W rfl rfl (by omega) (by omega) (h2.ext hW) (h4.ext hW)).mono fun _ _ h => h.newBR)
  have HSN := Lib.hid (show mulN (s, t, d) (r, p, q) = (s != r, t * p, d * q) from rfl)
  rw [HSN.out]
  generalize t * p = X1 at *
  generalize d * q = X2 at *
  clear h1 h2 h3 h4 HSN
  have E : Ext w (((w.alloc (.cells #[.bool s, (.slice ta (toB 1000000 t).length tc), (.slice ba (toB 1000000 d).length bc)] 83)).alloc (.cells #[.bool r, (.slice ua (toB 1000000 p).length uc), (.slice va (toB 1000000 q).length vc)] 83)).alloc (.cells #[.bool false, .slice none 0 0, .slice none 0 0] 83)) := (by repeat (first | with_reducible exact Ext.refl _ | with_reducible assumption | with_reducible apply Ext.drewN | with_reducible apply Ext.drew | with_reducible apply Ext.alloc | ((with_reducible refine Ext.set ?_ ?_ _); rotate_left; first | omega | (simp; omega)) | (with_reducible refine Ext.trans ?_ (by with_reducible assumption))))
  have A : Num3 w.heap.size (((w.alloc (.cells #[.bool s, (.slice ta (toB 1000000 t).length tc), (.slice ba (toB 1000000 d).length bc)] 83)).alloc (.cells #[.bool r, (.slice ua (toB 1000000 p).length uc), (.slice va (toB 1000000 q).length vc)] 83)).alloc (.cells #[.bool false, .slice none 0 0, .slice none 0 0] 83)) (.bool s) (.slice ta (toB 1000000 t).length tc) (.slice ba (toB 1000000 d).length bc) := ⟨by go_simp, by go_simp, by go_simp, by go_simp, by go_simp, by go_simp⟩
  have B : Num3 (w.heap.size + 1) (((w.alloc (.cells #[.bool s, (.slice ta (toB 1000000 t).length tc), (.slice ba (toB 1000000 d).length bc)] 83)).alloc (.cells #[.bool r, (.slice ua (toB 1000000 p).length uc), (.slice va (toB 1000000 q).length vc)] 83)).alloc (.cells #[.bool false, .slice none 0 0, .slice none 0 0] 83)) (.bool r) (.slice ua (toB 1000000 p).length uc) (.slice va (toB 1000000 q).length vc) := ⟨by go_simp, by go_simp, by go_simp, by go_simp, by go_simp, by go_simp⟩
  have R : Num3 (w.heap.size + 1 + 1) (((w.alloc (.cells #[.bool s, (.slice ta (toB 1000000 t).length tc), (.slice ba (toB 1000000 d).length bc)] 83)).alloc (.cells #[.bool r, (.slice ua (toB 1000000 p).length uc), (.slice va (toB 1000000 q).length vc)] 83)).alloc (.cells #[.bool false, .slice none 0 0, .slice none 0 0] 83)) (.bool false) (.slice none 0 0) (.slice none 0 0) := ⟨by go_simp, by go_simp, by go_simp, by go_simp, by go_simp, by go_simp⟩
  go_enter Tryz.func73, Tryz.ntmps73
  go_wp2_with fail
  generalize (((w.alloc (.cells #[.bool s, (.slice ta (toB 1000000 t).length tc), (.slice ba (toB 1000000 d).length bc)] 83)).alloc (.cells #[.bool r, (.slice ua (toB 1000000 p).length uc), (.slice va (toB 1000000 q).length vc)] 83)).alloc (.cells #[.bool false, .slice none 0 0, .slice none 0 0] 83)) = W at E A B R ⊢
  have hdr : Ext W W.drew := (by repeat (first | with_reducible exact Ext.refl _ | with_reducible assumption | with_reducible apply Ext.drewN | with_reducible apply Ext.drew | with_reducible apply Ext.alloc | ((with_reducible refine Ext.set ?_ ?_ _); rotate_left; first | omega | (simp; omega)) | (with_reducible refine Ext.trans ?_ (by with_reducible assumption))))
  replace A := A.ext hdr
  replace B := B.ext hdr
  replace R := R.ext hdr
  replace E := E.trans hdr
  have hS : W.drew.cell? ⟨w.heap.size, 0, none⟩ = some (.bool s) ∧ W.drew.cell? ⟨w.heap.size + 1, 0, none⟩ = some (.bool r) ∧ W.drew.cell? ⟨w.heap.size, 1, none⟩ = some (.slice ta (toB 1000000 t).length tc) ∧ W.drew.cell? ⟨w.heap.size + 1, 1, none⟩ = some (.slice ua (toB 1000000 p).length uc) ∧ W.drew.cell? ⟨w.heap.size, 2, none⟩ = some (.slice ba (toB 1000000 d).length bc) ∧ W.drew.cell? ⟨w.heap.size + 1, 2, none⟩ = some (.slice va (toB 1000000 q).length vc) := ⟨A.c0, B.c0, A.c1, B.c1, A.c2, B.c2⟩
  refine wp_region_heldE 16 (fun w' => w'.cell? ⟨w.heap.size, 0, none⟩ = some (.bool s) ∧ w'.cell? ⟨w.heap.size + 1, 0, none⟩ = some (.bool r) ∧ w'.cell? ⟨w.heap.size, 1, none⟩ = some (.slice ta (toB 1000000 t).length tc) ∧ w'.cell? ⟨w.heap.size + 1, 1, none⟩ = some (.slice ua (toB 1000000 p).length uc) ∧ w'.cell? ⟨w.heap.size, 2, none⟩ = some (.slice ba (toB 1000000 d).length bc) ∧ w'.cell? ⟨w.heap.size + 1, 2, none⟩ = some (.slice va (toB 1000000 q).length vc)) (by kernel_rfl) ?_
  clear hdr A B
  generalize W.drew = W at E R hS ⊢
  ((refine wpAnyE_take (i := 0) (oi := ?_) (v := ?_) ?_ (by kernel_rfl) ?_ ?_ (by assumption) ?_; rotate_left 2; (focus ((simp only [List.getElem?_toArray, List.getElem?_cons_zero]; exact rfl))); (focus (exact fun _ _ _ h => h)); (focus (refine Or.inl ⟨by rfl, ?_⟩; intro w hSw; (try dsimp only at hSw); (first | (go_simp; done) | (go_simp; with_reducible rfl)))); (try simp only [Act.put, List.setIfInBounds_toArray, List.set_cons_zero, List.set_cons_succ])); (refine wpAnyE_take (i := 1) (oi := ?_) (v := ?_) ?_ (by kernel_rfl) ?_ ?_ (by assumption) ?_; rotate_left 2; (focus ((simp only [List.getElem?_toArray, List.getElem?_cons_succ, List.getElem?_cons_zero]; exact rfl))); (focus (exact fun _ _ _ h => h)); (focus (refine Or.inl ⟨by rfl, ?_⟩; intro w hSw; (try dsimp only at hSw); (first | (go_simp; done) | (go_simp; with_reducible rfl)))); (try simp only [Act.put, List.setIfInBounds_toArray, List.set_cons_zero, List.set_cons_succ])); (refine wpAnyE_take (i := 2) (oi := ?_) (v := ?_) ?_ (by kernel_rfl) ?_ ?_ (by assumption) ?_; rotate_left 2; (focus ((simp only [List.getElem?_toArray, List.getElem?_cons_succ, List.getElem?_cons_zero]; exact rfl))); (focus (exact fun _ _ _ h => h)); (focus (refine Or.inl ⟨by rfl, ?_⟩; intro w hSw; (try dsimp only at hSw); (first | (go_simp; done) | (go_simp; with_reducible rfl)))); (try simp only [Act.put, List.setIfInBounds_toArray, List.set_cons_zero, List.set_cons_succ])); (refine wpAnyE_take (i := 3) (oi := ?_) (v := ?_) ?_ (by kernel_rfl) ?_ ?_ (by assumption) ?_; rotate_left 2; (focus ((simp only [List.getElem?_toArray, List.getElem?_cons_succ, List.getElem?_cons_zero]; exact rfl))); (focus (exact fun _ _ _ h => h)); (focus (refine Or.inl ⟨by rfl, ?_⟩; intro w hSw; (try dsimp only at hSw); (first | (go_simp; done) | (go_simp; with_reducible rfl)))); (try simp only [Act.put, List.setIfInBounds_toArray, List.set_cons_zero, List.set_cons_succ])); (refine wpAnyE_take (i := 5) (oi := ?_) (v := ?_) ?_ (by kernel_rfl) ?_ ?_ (by assumption) ?_; rotate_left 2; (focus ((simp only [List.getElem?_toArray, List.getElem?_cons_succ, List.getElem?_cons_zero]; exact rfl))); (focus (exact fun _ _ _ h => h)); (focus (refine Or.inl ⟨by rfl, ?_⟩; intro w hSw; (try dsimp only at hSw); (first | (go_simp; done) | (go_simp; with_reducible rfl)))); (try simp only [Act.put, List.setIfInBounds_toArray, List.set_cons_zero, List.set_cons_succ])); (refine wpAnyE_take (i := 6) (oi := ?_) (v := ?_) ?_ (by kernel_rfl) ?_ ?_ (by assumption) ?_; rotate_left 2; (focus ((simp only [List.getElem?_toArray, List.getElem?_cons_succ, List.getElem?_cons_zero]; exact rfl))); (focus (exact fun _ _ _ h => h)); (focus (refine Or.inl ⟨by rfl, ?_⟩; intro w hSw; (try dsimp only at hSw); (first | (go_simp; done) | (go_simp; with_reducible rfl)))); (try simp only [Act.put, List.setIfInBounds_toArray, List.set_cons_zero, List.set_cons_succ])); (refine wpAnyE_take (i := 7) (oi := ?_) (v := ?_) ?_ (by kernel_rfl) ?_ ?_ (by assumption) ?_; rotate_left 2; (focus ((simp only [List.getElem?_toArray, List.getElem?_cons_succ, List.getElem?_cons_zero]; exact rfl))); (focus (exact fun _ _ _ h => h)); (focus (refine Or.inl ⟨by rfl, ?_⟩; intro w hSw; (try dsimp only at hSw); (first | (go_simp; done) | (go_simp; with_reducible rfl)))); (try simp only [Act.put, List.setIfInBounds_toArray, List.set_cons_zero, List.set_cons_succ])); (refine wpAnyE_take (i := 8) (oi := ?_) (v := ?_) ?_ (by kernel_rfl) ?_ ?_ (by assumption) ?_; rotate_left 2; (focus ((simp only [List.getElem?_toArray, List.getElem?_cons_succ, List.getElem?_cons_zero]; exact rfl))); (focus (exact fun _ _ _ h => h)); (focus (refine Or.inl ⟨by rfl, ?_⟩; intro w hSw; (try dsimp only at hSw); (first | (go_simp; done) | (go_simp; with_reducible rfl)))); (try simp only [Act.put, List.setIfInBounds_toArray, List.set_cons_zero, List.set_cons_succ])); (refine wpAnyE_take (i := 10) (oi := ?_) (v := ?_) ?_ (by kernel_rfl) ?_ ?_ (by assumption) ?_; rotate_left 2; (focus ((simp only [List.getElem?_toArray, List.getElem?_cons_succ, List.getElem?_cons_zero]; exact rfl))); (focus (exact fun _ _ _ h => h)); (focus (refine Or.inl ⟨by rfl, ?_⟩; intro w hSw; (try dsimp only at hSw); (first | (go_simp; done) | (go_simp; with_reducible rfl)))); (try simp only [Act.put, List.setIfInBounds_toArray, List.set_cons_zero, List.set_cons_succ])); (refine wpAnyE_take (i := 11) (oi := ?_) (v := ?_) ?_ (by kernel_rfl) ?_ ?_ (by assumption) ?_; rotate_left 2; (focus ((simp only [List.getElem?_toArray, List.getElem?_cons_succ, List.getElem?_cons_zero]; exact rfl))); (focus (exact fun _ _ _ h => h)); (focus (refine Or.inl ⟨by rfl, ?_⟩; intro w hSw; (try dsimp only at hSw); (first | (go_simp; done) | (go_simp; with_reducible rfl)))); (try simp only [Act.put, List.setIfInBounds_toArray, List.set_cons_zero, List.set_cons_succ])); (refine wpAnyE_take (i := 12) (oi := ?_) (v := ?_) ?_ (by kernel_rfl) ?_ ?_ (by assumption) ?_; rotate_left 2; (focus ((simp only [List.getElem?_toArray, List.getElem?_cons_succ, List.getElem?_cons_zero]; exact rfl))); (focus (exact fun _ _ _ h => h)); (focus (refine Or.inl ⟨by rfl, ?_⟩; intro w hSw; (try dsimp only at hSw); (first | (go_simp; done) | (go_simp; with_reducible rfl)))); (try simp only [Act.put, List.setIfInBounds_toArray, List.set_cons_zero, List.set_cons_succ])); (refine wpAnyE_take (i := 13) (oi := ?_) (v := ?_) ?_ (by kernel_rfl) ?_ ?_ (by assumption) ?_; rotate_left 2; (focus ((simp only [List.getElem?_toArray, List.getElem?_cons_succ, List.getElem?_cons_zero]; exact rfl))); (focus (exact fun _ _ _ h => h)); (focus (refine Or.inl ⟨by rfl, ?_⟩; intro w hSw; (try dsimp only at hSw); (first | (go_simp; done) | (go_simp; with_reducible rfl)))); (try simp only [Act.put, List.setIfInBounds_toArray, List.set_cons_zero, List.set_cons_succ])))
  (refine wpAnyE_pure (i := 4) (oi := ?_) (v := ?_) ?_ (by kernel_rfl) ?_ ?_ ?_ ?_; rotate_left 2; (focus ((simp only [List.getElem?_toArray, List.getElem?_cons_succ, List.getElem?_cons_zero]; exact rfl))); (focus (exact fun _ _ _ h => h)); (focus (refine Or.inl ⟨by rfl, ?_⟩; intro w hSw; clear hSw; (first | (go_simp; done) | (go_simp; with_reducible rfl)))); (focus (first | exact (fun _ => by assumption) | (intro hlst; exact absurd hlst (by kernel_rfl)) | (intro hlst; cases hlst))); (try simp only [Act.put, List.setIfInBounds_toArray, List.set_cons_zero, List.set_cons_succ]))
  (refine wpAnyE_one (i := 9) (o := ?_) ?_ (by kernel_rfl) (fun K hK => ?_); rotate_left; (focus ((simp only [List.getElem?_toArray, List.getElem?_cons_succ, List.getElem?_cons_zero]; exact rfl))); go_simp; go_at_call 105; refine (HT1.out _ E).mono ?_; rintro e w1 ⟨xa, xc, rfl, hx, hxn, hE⟩; go_wp2_with fail; refine hK.out _ _ ?_ (fun hHeld => ?_); rotate_left; clear hK K; (try simp only [Act.put, List.setIfInBounds_toArray, List.set_cons_zero, List.set_cons_succ]))
  rotate_left
  · exact ⟨hE.cell hS.1, hE.cell hS.2.1, hE.cell hS.2.2.1, hE.cell hS.2.2.2.1, hE.cell hS.2.2.2.2.1, hE.cell hS.2.2.2.2.2⟩
  have hS1 : w1.cell? ⟨w.heap.size, 0, none⟩ = some (.bool s) ∧ w1.cell? ⟨w.heap.size + 1, 0, none⟩ = some (.bool r) ∧ w1.cell? ⟨w.heap.size, 1, none⟩ = some (.slice ta (toB 1000000 t).length tc) ∧ w1.cell? ⟨w.heap.size + 1, 1, none⟩ = some (.slice ua (toB 1000000 p).length uc) ∧ w1.cell? ⟨w.heap.size, 2, none⟩ = some (.slice ba (toB 1000000 d).length bc) ∧ w1.cell? ⟨w.heap.size + 1, 2, none⟩ = some (.slice va (toB 1000000 q).length vc) := ⟨hE.cell hS.1, hE.cell hS.2.1, hE.cell hS.2.2.1, hE.cell hS.2.2.2.1, hE.cell hS.2.2.2.2.1, hE.cell hS.2.2.2.2.2⟩
  have hz : w.heap.size + 1 + 1 < W.heap.size := cell_lt R.c0
  have hz1 := hE.size
  have N1 : 0 < (toB 1000000 X1).length → ∀ z, xa = some z → z.block ≠ w.heap.size + 1 + 1 := fun hl z hz => by have := hxn z hz; omega
  replace R := R.ext hE
  replace E := E.trans hE
  have HX := Lib.hid hx
  clear hS hE hx hxn hHeld
  have hS := hS1
  (refine wpAnyE_one (i := 14) (o := ?_) ?_ (by kernel_rfl) (fun K hK => ?_); rotate_left; (focus ((simp only [List.getElem?_toArray, List.getElem?_cons_succ, List.getElem?_cons_zero]; exact rfl))); go_simp; go_at_call 105; refine (HT2.out _ E).mono ?_; rintro e w2 ⟨ya, yc, rfl, hy, hyn, hE⟩; go_wp2_with fail; refine hK.out _ _ ?_ (fun hHeld => ?_); rotate_left; clear hK K; (try simp only [Act.put, List.setIfInBounds_toArray, List.set_cons_zero, List.set_cons_succ]))
  rotate_left
  · exact ⟨hE.cell hS1.1, hE.cell hS1.2.1, hE.cell hS1.2.2.1, hE.cell hS1.2.2.2.1, hE.cell hS1.2.2.2.2.1, hE.cell hS1.2.2.2.2.2⟩
  have hS2 : w2.cell? ⟨w.heap.size, 0, none⟩ = some (.bool s) ∧ w2.cell? ⟨w.heap.size + 1, 0, none⟩ = some (.bool r) ∧ w2.cell? ⟨w.heap.size, 1, none⟩ = some (.slice ta (toB 1000000 t).length tc) ∧ w2.cell? ⟨w.heap.size + 1, 1, none⟩ = some (.slice ua (toB 1000000 p).length uc) ∧ w2.cell? ⟨w.heap.size, 2, none⟩ = some (.slice ba (toB 1000000 d).length bc) ∧ w2.cell? ⟨w.heap.size + 1, 2, none⟩ = some (.slice va (toB 1000000 q).length vc) := ⟨hE.cell hS1.1, hE.cell hS1.2.1, hE.cell hS1.2.2.1, hE.cell hS1.2.2.2.1, hE.cell hS1.2.2.2.2.1, hE.cell hS1.2.2.2.2.2⟩
  have hz2 := hE.size
  have N2 : 0 < (toB 1000000 X2).length → ∀ z, ya = some z → z.block ≠ w.heap.size + 1 + 1 := fun hl z hz => by have := hyn z hz; omega
  replace R := R.ext hE
  replace E := E.trans hE
  replace HX := Lib.hid (HX.out.ext hE)
  have HY := Lib.hid hy
  have HN1 := Lib.hid N1
  have HN2 := Lib.hid N2
  clear hS hS1 hE hy hyn hHeld N1 N2
  obtain ⟨r0, r1, r2, f0, f1, f2⟩ := R
  ((refine wpAnyE_pure (i := 15) (oi := ?_) (v := ?_) ?_ (by kernel_rfl) ?_ ?_ ?_ ?_; rotate_left 2; (focus ((simp only [List.getElem?_toArray, List.getElem?_cons_succ, List.getElem?_cons_zero]; exact rfl))); (focus (exact fun _ _ _ h => h)); (focus (refine Or.inl ⟨by rfl, ?_⟩; intro w hSw; clear hSw; (first | (go_simp; done) | (go_simp; with_reducible rfl)))); (focus (first | exact (fun _ => by assumption) | (intro hlst; exact absurd hlst (by kernel_rfl)) | (intro hlst; cases hlst))); (try simp only [Act.put, List.setIfInBounds_toArray, List.set_cons_zero, List.set_cons_succ])))
  clear hS2
  (refine wpAnyE_free (i := 16) (o := ?_) ?_ (by kernel_rfl) (by kernel_rfl) (fun K hK => ?_); rotate_left; (focus ((simp only [List.getElem?_toArray, List.getElem?_cons_succ, List.getElem?_cons_zero]; exact rfl))); go_simp; refine hK.out _ _ ?_; clear hK K; (try simp only [Act.put, List.setIfInBounds_toArray, List.set_cons_zero, List.set_cons_succ]))
  refine wpAnyE_done (by kernel_rfl) ?_ _
  go_wp2_with fail
  refine bodyPost_ret (v := .agg #[.bool (!(s == r)), .slice xa (toB 1000000 X1).length xc, .slice ya (toB 1000000 X2).length yc]) (by rw [results_cell1 rfl]; go_simp) rfl ?_
  exact ⟨_, rfl, ⟨xa, xc, ya, yc, rfl, HX.out.three HN1.out, HY.out.three HN2.out⟩, (by repeat (first | with_reducible exact Ext.refl _ | with_reducible assumption | with_reducible apply Ext.drewN | with_reducible apply Ext.drew | with_reducible apply Ext.alloc | ((with_reducible refine Ext.set ?_ ?_ _); rotate_left; first | omega | (simp; omega)) | (with_reducible refine Ext.trans ?_ (by with_reducible assumption))))⟩

set_option maxHeartbeats 8000000 in
set_option maxRecDepth 100000 in
theorem rSum_any (x y : Num) (v u : Value) (w : World) (hv : NumR w v x) (hu : NumR w u y) (hx : LenR 40 x) (hy : LenR 40 y) :
    Calls Tryz.prog 71 #[v, u] w (NumPost (sumN x y) w) := by
  obtain ⟨ta, tc, ba, bc, rfl, h1, h2⟩ := hv
  obtain ⟨ua, uc, va, vc, rfl, h3, h4⟩ := hu
  obtain ⟨s, t, d⟩ := x
  obtain ⟨r, p, q⟩ := y
  obtain ⟨l1, l2⟩ := hx
  obtain ⟨l3, l4⟩ := hy
  dsimp only at h1 h2 h3 h4 l1 l2 l3 l4 ⊢
  have m1 := mul_lenR l1 l4
  have m2 := mul_lenR l3 l2
  have HT1 := Lib.hid (fun W (hW : Ext w W) => (timesR_any t q _ _ ta va tc vc W rfl rfl (by omega) (by omega) (h1.ext hW) (h4.ext hW)).mono fun _ _ h => h.newBR)
  have HT2 := Lib.hid (fun W (hW : Ext w W) => (timesR_any p d _ _ ua ba uc bc W rfl rfl (by omega) (by omega) (h3.ext hW) (h2.ext hW)).mono fun _ _ h => h.newBR)
  have HT3 := Lib.hid (fun W (hW : Ext w W) => (timesR_any d q _ _ ba va bc vc W rfl rfl (by omega) (by omega) (h2.ext hW) (h4.ext hW)).mono fun _ _ h => h.newBR)
  have HSN := Lib.hid (show sumN (s, t, d) (r, p, q) = if s = r then (s, t * q + p * d, d * q) else if p * d ≤ t * q then (s, t * q - p * d, d * q) else (r, p * d - t * q, d * q) from rfl)
  generalize sumN (s, t, d) (r, p, q) = SN at *
  generalize t * q = X1 at *
  generalize p * d = X2 at *
  generalize d * q = X3 at *
  clear h1 h2 h3 h4
  have E : Ext w (((w.alloc (.cells #[.bool s, (.slice ta (toB 1000000 t).length tc), (.slice ba (toB 1000000 d).length bc)] 83)).alloc (.cells #[.bool r, (.slice ua (toB 1000000 p).length uc), (.slice va (toB 1000000 q).length vc)] 83)).alloc (.cells #[.bool false, .slice none 0 0, .slice none 0 0] 83)) := (by repeat (first | with_reducible exact Ext.refl _ | with_reducible assumption | with_reducible apply Ext.drewN | with_reducible apply Ext.drew | with_reducible apply Ext.alloc | ((with_reducible refine Ext.set ?_ ?_ _); rotate_left; first | omega | (simp; omega)) | (with_reducible refine Ext.trans ?_ (by with_reducible assumption))))
  have A : Num3 w.heap.size (((w.alloc (.cells #[.bool s, (.slice ta (toB 1000000 t).length tc), (.slice ba (toB 1000000 d).length bc)] 83)).alloc (.cells #[.bool r, (.slice ua (toB 1000000 p).length uc), (.slice va (toB 1000000 q).length vc)] 83)).alloc (.cells #[.bool false, .slice none 0 0, .slice none 0 0] 83)) (.bool s) (.slice ta (toB 1000000 t).length tc) (.slice ba (toB 1000000 d).length bc) := ⟨by go_simp, by go_simp, by go_simp, by go_simp, by go_simp, by go_simp⟩
  have B : Num3 (w.heap.size + 1) (((w.alloc (.cells #[.bool s, (.slice ta (toB 1000000 t).length tc), (.slice ba (toB 1000000 d).length bc)] 83)).alloc (.cells #[.bool r, (.slice ua (toB 1000000 p).length uc), (.slice va (toB 1000000 q).length vc)] 83)).alloc (.cells #[.bool false, .slice none 0 0, .slice none 0 0] 83)) (.bool r) (.slice ua (toB 1000000 p).length uc) (.slice va (toB 1000000 q).length vc) := ⟨by go_simp, by go_simp, by go_simp, by go_simp, by go_simp, by go_simp⟩
  have R : Num3 (w.heap.size + 1 + 1) (((w.alloc (.cells #[.bool s, (.slice ta (toB 1000000 t).length tc), (.slice ba (toB 1000000 d).length bc)] 83)).alloc (.cells #[.bool r, (.slice ua (toB 1000000 p).length uc), (.slice va (toB 1000000 q).length vc)] 83)).alloc (.cells #[.bool false, .slice none 0 0, .slice none 0 0] 83)) (.bool false) (.slice none 0 0) (.slice none 0 0) := ⟨by go_simp, by go_simp, by go_simp, by go_simp, by go_simp, by go_simp⟩
  go_enter Tryz.func71, Tryz.ntmps71
  go_wp2_with fail
  generalize (((w.alloc (.cells #[.bool s, (.slice ta (toB 1000000 t).length tc), (.slice ba (toB 1000000 d).length bc)] 83)).alloc (.cells #[.bool r, (.slice ua (toB 1000000 p).length uc), (.slice va (toB 1000000 q).length vc)] 83)).alloc (.cells #[.bool false, .slice none 0 0, .slice none 0 0] 83)) = W at E A B R ⊢
  have hdr : Ext W W.drew := (by repeat (first | with_reducible exact Ext.refl _ | with_reducible assumption | with_reducible apply Ext.drewN | with_reducible apply Ext.drew | with_reducible apply Ext.alloc | ((with_reducible refine Ext.set ?_ ?_ _); rotate_left; first | omega | (simp; omega)) | (with_reducible refine Ext.trans ?_ (by with_reducible assumption))))
  replace A := A.ext hdr
  replace B := B.ext hdr
  replace R := R.ext hdr
  replace E := E.trans hdr
  have hS : W.drew.cell? ⟨w.heap.size, 1, none⟩ = some (.slice ta (toB 1000000 t).length tc) ∧ W.drew.cell? ⟨w.heap.size + 1, 2, none⟩ = some (.slice va (toB 1000000 q).length vc) ∧ W.drew.cell? ⟨w.heap.size + 1, 1, none⟩ = some (.slice ua (toB 1000000 p).length uc) ∧ W.drew.cell? ⟨w.heap.size, 2, none⟩ = some (.slice ba (toB 1000000 d).length bc) := ⟨A.c1, B.c2, B.c1, A.c2⟩
  refine wp_region_heldE 99 (fun w' => w'.cell? ⟨w.heap.size, 1, none⟩ = some (.slice ta (toB 1000000 t).length tc) ∧ w'.cell? ⟨w.heap.size + 1, 2, none⟩ = some (.slice va (toB 1000000 q).length vc) ∧ w'.cell? ⟨w.heap.size + 1, 1, none⟩ = some (.slice ua (toB 1000000 p).length uc) ∧ w'.cell? ⟨w.heap.size, 2, none⟩ = some (.slice ba (toB 1000000 d).length bc)) (by kernel_rfl) ?_
  clear hdr
  generalize W.drew = W at E A B R hS ⊢
  have hz : w.heap.size + 1 + 1 < W.heap.size := cell_lt R.c0
  ((refine wpAnyE_take (i := 0) (oi := ?_) (v := ?_) ?_ (by kernel_rfl) ?_ ?_ (by assumption) ?_; rotate_left 2; (focus ((simp only [List.getElem?_toArray, List.getElem?_cons_zero]; exact rfl))); (focus (exact fun _ _ _ h => h)); (focus (refine Or.inl ⟨by rfl, ?_⟩; intro w hSw; (try dsimp only at hSw); (first | (go_simp; done) | (go_simp; with_reducible rfl)))); (try simp only [Act.put, List.setIfInBounds_toArray, List.set_cons_zero, List.set_cons_succ])); (refine wpAnyE_take (i := 1) (oi := ?_) (v := ?_) ?_ (by kernel_rfl) ?_ ?_ (by assumption) ?_; rotate_left 2; (focus ((simp only [List.getElem?_toArray, List.getElem?_cons_succ, List.getElem?_cons_zero]; exact rfl))); (focus (exact fun _ _ _ h => h)); (focus (refine Or.inl ⟨by rfl, ?_⟩; intro w hSw; (try dsimp only at hSw); (first | (go_simp; done) | (go_simp; with_reducible rfl)))); (try simp only [Act.put, List.setIfInBounds_toArray, List.set_cons_zero, List.set_cons_succ])); (refine wpAnyE_take (i := 2) (oi := ?_) (v := ?_) ?_ (by kernel_rfl) ?_ ?_ (by assumption) ?_; rotate_left 2; (focus ((simp only [List.getElem?_toArray, List.getElem?_cons_succ, List.getElem?_cons_zero]; exact rfl))); (focus (exact fun _ _ _ h => h)); (focus (refine Or.inl ⟨by rfl, ?_⟩; intro w hSw; (try dsimp only at hSw); (first | (go_simp; done) | (go_simp; with_reducible rfl)))); (try simp only [Act.put, List.setIfInBounds_toArray, List.set_cons_zero, List.set_cons_succ])); (refine wpAnyE_take (i := 3) (oi := ?_) (v := ?_) ?_ (by kernel_rfl) ?_ ?_ (by assumption) ?_; rotate_left 2; (focus ((simp only [List.getElem?_toArray, List.getElem?_cons_succ, List.getElem?_cons_zero]; exact rfl))); (focus (exact fun _ _ _ h => h)); (focus (refine Or.inl ⟨by rfl, ?_⟩; intro w hSw; (try dsimp only at hSw); (first | (go_simp; done) | (go_simp; with_reducible rfl)))); (try simp only [Act.put, List.setIfInBounds_toArray, List.set_cons_zero, List.set_cons_succ])); (refine wpAnyE_take (i := 5) (oi := ?_) (v := ?_) ?_ (by kernel_rfl) ?_ ?_ (by assumption) ?_; rotate_left 2; (focus ((simp only [List.getElem?_toArray, List.getElem?_cons_succ, List.getElem?_cons_zero]; exact rfl))); (focus (exact fun _ _ _ h => h)); (focus (refine Or.inl ⟨by rfl, ?_⟩; intro w hSw; (try dsimp only at hSw); (first | (go_simp; done) | (go_simp; with_reducible rfl)))); (try simp only [Act.put, List.setIfInBounds_toArray, List.set_cons_zero, List.set_cons_succ])); (refine wpAnyE_take (i := 6) (oi := ?_) (v := ?_) ?_ (by kernel_rfl) ?_ ?_ (by assumption) ?_; rotate_left 2; (focus ((simp only [List.getElem?_toArray, List.getElem?_cons_succ, List.getElem?_cons_zero]; exact rfl))); (focus (exact fun _ _ _ h => h)); (focus (refine Or.inl ⟨by rfl, ?_⟩; intro w hSw; (try dsimp only at hSw); (first | (go_simp; done) | (go_simp; with_reducible rfl)))); (try simp only [Act.put, List.setIfInBounds_toArray, List.set_cons_zero, List.set_cons_succ])); (refine wpAnyE_take (i := 7) (oi := ?_) (v := ?_) ?_ (by kernel_rfl) ?_ ?_ (by assumption) ?_; rotate_left 2; (focus ((simp only [List.getElem?_toArray, List.getElem?_cons_succ, List.getElem?_cons_zero]; exact rfl))); (focus (exact fun _ _ _ h => h)); (focus (refine Or.inl ⟨by rfl, ?_⟩; intro w hSw; (try dsimp only at hSw); (first | (go_simp; done) | (go_simp; with_reducible rfl)))); (try simp only [Act.put, List.setIfInBounds_toArray, List.set_cons_zero, List.set_cons_succ])); (refine wpAnyE_take (i := 8) (oi := ?_) (v := ?_) ?_ (by kernel_rfl) ?_ ?_ (by assumption) ?_; rotate_left 2; (focus ((simp only [List.getElem?_toArray, List.getElem?_cons_succ, List.getElem?_cons_zero]; exact rfl))); (focus (exact fun _ _ _ h => h)); (focus (refine Or.inl ⟨by rfl, ?_⟩; intro w hSw; (try dsimp only at hSw); (first | (go_simp; done) | (go_simp; with_reducible rfl)))); (try simp only [Act.put, List.setIfInBounds_toArray, List.set_cons_zero, List.set_cons_succ])); (refine wpAnyE_take (i := 10) (oi := ?_) (v := ?_) ?_ (by kernel_rfl) ?_ ?_ (by assumption) ?_; rotate_left 2; (focus ((simp only [List.getElem?_toArray, List.getElem?_cons_succ, List.getElem?_cons_zero]; exact rfl))); (focus (exact fun _ _ _ h => h)); (focus (refine Or.inl ⟨by rfl, ?_⟩; intro w hSw; (try dsimp only at hSw); (first | (go_simp; done) | (go_simp; with_reducible rfl)))); (try simp only [Act.put, List.setIfInBounds_toArray, List.set_cons_zero, List.set_cons_succ])); (refine wpAnyE_take (i := 11) (oi := ?_) (v := ?_) ?_ (by kernel_rfl) ?_ ?_ (by assumption) ?_; rotate_left 2; (focus ((simp only [List.getElem?_toArray, List.getElem?_cons_succ, List.getElem?_cons_zero]; exact rfl))); (focus (exact fun _ _ _ h => h)); (focus (refine Or.inl ⟨by rfl, ?_⟩; intro w hSw; (try dsimp only at hSw); (first | (go_simp; done) | (go_simp; with_reducible rfl)))); (try simp only [Act.put, List.setIfInBounds_toArray, List.set_cons_zero, List.set_cons_succ])); (refine wpAnyE_take (i := 12) (oi := ?_) (v := ?_) ?_ (by kernel_rfl) ?_ ?_ (by assumption) ?_; rotate_left 2; (focus ((simp only [List.getElem?_toArray, List.getElem?_cons_succ, List.getElem?_cons_zero]; exact rfl))); (focus (exact fun _ _ _ h => h)); (focus (refine Or.inl ⟨by rfl, ?_⟩; intro w hSw; (try dsimp only at hSw); (first | (go_simp; done) | (go_simp; with_reducible rfl)))); (try simp only [Act.put, List.setIfInBounds_toArray, List.set_cons_zero, List.set_cons_succ])); (refine wpAnyE_take (i := 13) (oi := ?_) (v := ?_) ?_ (by kernel_rfl) ?_ ?_ (by assumption) ?_; rotate_left 2; (focus ((simp only [List.getElem?_toArray, List.getElem?_cons_succ, List.getElem?_cons_zero]; exact rfl))); (focus (exact fun _ _ _ h => h)); (focus (refine Or.inl ⟨by rfl, ?_⟩; intro w hSw; (try dsimp only at hSw); (first | (go_simp; done) | (go_simp; with_reducible rfl)))); (try simp only [Act.put, List.setIfInBounds_toArray, List.set_cons_zero, List.set_cons_succ])))
  (refine wpAnyE_one (i := 4) (o := ?_) ?_ (by kernel_rfl) (fun K hK => ?_); rotate_left; (focus ((simp only [List.getElem?_toArray, List.getElem?_cons_succ, List.getElem?_cons_zero]; exact rfl))); go_simp; go_at_call 105; refine (HT1.out _ E).mono ?_; rintro e w1 ⟨xa, xc, rfl, hx, hxn, hE⟩; go_wp2_with fail; refine hK.out _ _ ?_ (fun hHeld => ?_); rotate_left; clear hK K; (try simp only [Act.put, List.setIfInBounds_toArray, List.set_cons_zero, List.set_cons_succ]))
  rotate_left
  · exact ⟨hE.cell hS.1, hE.cell hS.2.1, hE.cell hS.2.2.1, hE.cell hS.2.2.2⟩
  have hS1 : w1.cell? ⟨w.heap.size, 1, none⟩ = some (.slice ta (toB 1000000 t).length tc) ∧ w1.cell? ⟨w.heap.size + 1, 2, none⟩ = some (.slice va (toB 1000000 q).length vc) ∧ w1.cell? ⟨w.heap.size + 1, 1, none⟩ = some (.slice ua (toB 1000000 p).length uc) ∧ w1.cell? ⟨w.heap.size, 2, none⟩ = some (.slice ba (toB 1000000 d).length bc) := ⟨hE.cell hS.1, hE.cell hS.2.1, hE.cell hS.2.2.1, hE.cell hS.2.2.2⟩
  have hz1 := hE.size
  have HXN : Hid (0 < (toB 1000000 X1).length → ∀ z, xa = some z → z.block ≠ w.heap.size + 1 + 1) := fun hl z hz => by have := hxn z hz; omega
  replace A := A.ext hE
  replace B := B.ext hE
  replace R := R.ext hE
  replace E := E.trans hE
  have HX := Lib.hid hx
  clear hS hE hx hxn hHeld
  (refine wpAnyE_one (i := 9) (o := ?_) ?_ (by kernel_rfl) (fun K hK => ?_); rotate_left; (focus ((simp only [List.getElem?_toArray, List.getElem?_cons_succ, List.getElem?_cons_zero]; exact rfl))); go_simp; go_at_call 105; refine (HT2.out _ E).mono ?_; rintro e w2 ⟨ya, yc, rfl, hy, hyn, hE⟩; go_wp2_with fail; refine hK.out _ _ ?_ (fun hHeld => ?_); rotate_left; clear hK K; (try simp only [Act.put, List.setIfInBounds_toArray, List.set_cons_zero, List.set_cons_succ]))
  rotate_left
  · exact ⟨hE.cell hS1.1, hE.cell hS1.2.1, hE.cell hS1.2.2.1, hE.cell hS1.2.2.2⟩
  have hS2 : w2.cell? ⟨w.heap.size, 1, none⟩ = some (.slice ta (toB 1000000 t).length tc) ∧ w2.cell? ⟨w.heap.size + 1, 2, none⟩ = some (.slice va (toB 1000000 q).length vc) ∧ w2.cell? ⟨w.heap.size + 1, 1, none⟩ = some (.slice ua (toB 1000000 p).length uc) ∧ w2.cell? ⟨w.heap.size, 2, none⟩ = some (.slice ba (toB 1000000 d).length bc) := ⟨hE.cell hS1.1, hE.cell hS1.2.1, hE.cell hS1.2.2.1, hE.cell hS1.2.2.2⟩
  have hz2 := hE.size
  have HYN : Hid (0 < (toB 1000000 X2).length → ∀ z, ya = some z → z.block ≠ w.heap.size + 1 + 1) := fun hl z hz => by have := hyn z hz; omega
  replace A := A.ext hE
  replace B := B.ext hE
  replace R := R.ext hE
  replace E := E.trans hE
  replace HX := Lib.hid (HX.out.ext hE)
  have HY := Lib.hid hy
  clear hS1 hE hy hyn hHeld
  (refine wpAnyE_one (i := 14) (o := ?_) ?_ (by kernel_rfl) (fun K hK => ?_); rotate_left; (focus ((simp only [List.getElem?_toArray, List.getElem?_cons_succ, List.getElem?_cons_zero]; exact rfl))); go_simp; go_at_call 105; refine (HT3.out _ E).mono ?_; rintro e w3 ⟨ma, mc, rfl, hm, hmn, hE⟩; go_wp2_with fail; refine hK.out _ _ ?_ (fun hHeld => ?_); rotate_left; clear hK K; (try simp only [Act.put, List.setIfInBounds_toArray, List.set_cons_zero, List.set_cons_succ]))
  rotate_left
  · exact ⟨hE.cell hS2.1, hE.cell hS2.2.1, hE.cell hS2.2.2.1, hE.cell hS2.2.2.2⟩
  have hS3 : w3.cell? ⟨w.heap.size, 1, none⟩ = some (.slice ta (toB 1000000 t).length tc) ∧ w3.cell? ⟨w.heap.size + 1, 2, none⟩ = some (.slice va (toB 1000000 q).length vc) ∧ w3.cell? ⟨w.heap.size + 1, 1, none⟩ = some (.slice ua (toB 1000000 p).length uc) ∧ w3.cell? ⟨w.heap.size, 2, none⟩ = some (.slice ba (toB 1000000 d).length bc) := ⟨hE.cell hS2.1, hE.cell hS2.2.1, hE.cell hS2.2.2.1, hE.cell hS2.2.2.2⟩
  have hz3 := hE.size
  have HMN : Hid (0 < (toB 1000000 X3).length → ∀ z, ma = some z → z.block ≠ w.heap.size + 1 + 1) := fun hl z hz => by have := hmn z hz; omega
  replace A := A.ext hE
  replace B := B.ext hE
  replace R := R.ext hE
  replace E := E.trans hE
  replace HX := Lib.hid (HX.out.ext hE)
  replace HY := Lib.hid (HY.out.ext hE)
  have HM := Lib.hid hm
  clear hS2 hE hm hmn hHeld
  ((refine wpAnyE_pure (i := 15) (oi := ?_) (v := ?_) ?_ (by kernel_rfl) ?_ ?_ ?_ ?_; rotate_left 2; (focus ((simp only [List.getElem?_toArray, List.getElem?_cons_succ, List.getElem?_cons_zero]; exact rfl))); (focus (exact fun _ _ _ h => h)); (focus (refine Or.inl ⟨by rfl, ?_⟩; intro w hSw; clear hSw; (first | (go_simp; done) | (go_simp; with_reducible rfl)))); (focus (first | exact (fun _ => by assumption) | (intro hlst; exact absurd hlst (by kernel_rfl)) | (intro hlst; cases hlst))); (try simp only [Act.put, List.setIfInBounds_toArray, List.set_cons_zero, List.set_cons_succ])); (refine wpAnyE_pure (i := 16) (oi := ?_) (v := ?_) ?_ (by kernel_rfl) ?_ ?_ ?_ ?_; rotate_left 2; (focus ((simp only [List.getElem?_toArray, List.getElem?_cons_succ, List.getElem?_cons_zero]; exact rfl))); (focus (exact fun _ _ _ h => h)); (focus (refine Or.inl ⟨by rfl, ?_⟩; intro w hSw; clear hSw; (first | (go_simp; done) | (go_simp; with_reducible rfl)))); (focus (first | exact (fun _ => by assumption) | (intro hlst; exact absurd hlst (by kernel_rfl)) | (intro hlst; cases hlst))); (try simp only [Act.put, List.setIfInBounds_toArray, List.set_cons_zero, List.set_cons_succ])); (refine wpAnyE_pure (i := 17) (oi := ?_) (v := ?_) ?_ (by kernel_rfl) ?_ ?_ ?_ ?_; rotate_left 2; (focus ((simp only [List.getElem?_toArray, List.getElem?_cons_succ, List.getElem?_cons_zero]; exact rfl))); (focus (exact fun _ _ _ h => h)); (focus (refine Or.inl ⟨by rfl, ?_⟩; intro w hSw; clear hSw; (first | (go_simp; done) | (go_simp; with_reducible rfl)))); (focus (first | exact (fun _ => by assumption) | (intro hlst; exact absurd hlst (by kernel_rfl)) | (intro hlst; cases hlst))); (try simp only [Act.put, List.setIfInBounds_toArray, List.set_cons_zero, List.set_cons_succ])))
  refine wpAnyE_done (by kernel_rfl) ?_ _
  clear hS3
  obtain ⟨a0, _, _, _, _, _⟩ := A
  obtain ⟨b0, _, _, _, _, _⟩ := B
  by_cases hsr : s = r
  · have HE : Hid (SN = (s, X1 + X2, X3)) := HSN.out.trans (by rw [if_pos hsr])
    have hsb : (s == r) = true := by rw [hsr]; exact beq_self_eq_true r
    clear HSN hsr
    go_wp2_with fail
    have hdr : Ext w3 w3.drew := (by repeat (first | with_reducible exact Ext.refl _ | with_reducible assumption | with_reducible apply Ext.drewN | with_reducible apply Ext.drew | with_reducible apply Ext.alloc | ((with_reducible refine Ext.set ?_ ?_ _); rotate_left; first | omega | (simp; omega)) | (with_reducible refine Ext.trans ?_ (by with_reducible assumption))))
    have hS : w3.drew.cell? ⟨w.heap.size, 0, none⟩ = some (.bool s) := hdr.cell a0
    replace R := R.ext hdr
    replace E := E.trans hdr
    replace HX := Lib.hid (HX.out.ext hdr)
    replace HY := Lib.hid (HY.out.ext hdr)
    replace HM := Lib.hid (HM.out.ext hdr)
    have hzd : w3.drew.heap.size = w3.heap.size := rfl
    refine wp_region_heldE 7 (fun w' => w'.cell? ⟨w.heap.size, 0, none⟩ = some (.bool s)) (by kernel_rfl) ?_
    clear a0 b0 hdr
    generalize w3.drew = wd at R E HX HY HM hS hzd ⊢
    ((refine wpAnyE_take (i := 0) (oi := ?_) (v := ?_) ?_ (by kernel_rfl) ?_ ?_ (by assumption) ?_; rotate_left 2; (focus ((simp only [List.getElem?_toArray, List.getElem?_cons_zero]; exact rfl))); (focus (exact fun _ _ _ h => h)); (focus (refine Or.inl ⟨by rfl, ?_⟩; intro w hSw; (try dsimp only at hSw); (first | (go_simp; done) | (go_simp; with_reducible rfl)))); (try simp only [Act.put, List.setIfInBounds_toArray, List.set_cons_zero, List.set_cons_succ])); (refine wpAnyE_take (i := 1) (oi := ?_) (v := ?_) ?_ (by kernel_rfl) ?_ ?_ (by assumption) ?_; rotate_left 2; (focus ((simp only [List.getElem?_toArray, List.getElem?_cons_succ, List.getElem?_cons_zero]; exact rfl))); (focus (exact fun _ _ _ h => h)); (focus (refine Or.inl ⟨by rfl, ?_⟩; intro w hSw; (try dsimp only at hSw); (first | (go_simp; done) | (go_simp; with_reducible rfl)))); (try simp only [Act.put, List.setIfInBounds_toArray, List.set_cons_zero, List.set_cons_succ])); (refine wpAnyE_take (i := 2) (oi := ?_) (v := ?_) ?_ (by kernel_rfl) ?_ ?_ (by assumption) ?_; rotate_left 2; (focus ((simp only [List.getElem?_toArray, List.getElem?_cons_succ, List.getElem?_cons_zero]; exact rfl))); (focus (exact fun _ _ _ h => h)); (focus (refine Or.inl ⟨by rfl, ?_⟩; intro w hSw; (try dsimp only at hSw); (first | (go_simp; done) | (go_simp; with_reducible rfl)))); (try simp only [Act.put, List.setIfInBounds_toArray, List.set_cons_zero, List.set_cons_succ])); (refine wpAnyE_take (i := 3) (oi := ?_) (v := ?_) ?_ (by kernel_rfl) ?_ ?_ (by assumption) ?_; rotate_left 2; (focus ((simp only [List.getElem?_toArray, List.getElem?_cons_succ, List.getElem?_cons_zero]; exact rfl))); (focus (exact fun _ _ _ h => h)); (focus (refine Or.inl ⟨by rfl, ?_⟩; intro w hSw; (try dsimp only at hSw); (first | (go_simp; done) | (go_simp; with_reducible rfl)))); (try simp only [Act.put, List.setIfInBounds_toArray, List.set_cons_zero, List.set_cons_succ])); (refine wpAnyE_take (i := 5) (oi := ?_) (v := ?_) ?_ (by kernel_rfl) ?_ ?_ (by assumption) ?_; rotate_left 2; (focus ((simp only [List.getElem?_toArray, List.getElem?_cons_succ, List.getElem?_cons_zero]; exact rfl))); (focus (exact fun _ _ _ h => h)); (focus (refine Or.inl ⟨by rfl, ?_⟩; intro w hSw; (try dsimp only at hSw); (first | (go_simp; done) | (go_simp; with_reducible rfl)))); (try simp only [Act.put, List.setIfInBounds_toArray, List.set_cons_zero, List.set_cons_succ])))
    (refine wpAnyE_one (i := 4) (o := ?_) ?_ (by kernel_rfl) (fun K hK => ?_); rotate_left; (focus ((simp only [List.getElem?_toArray, List.getElem?_cons_succ, List.getElem?_cons_zero]; exact rfl))); go_simp; go_at_call 68; refine ((plusR_any X1 X2 _ _ xa ya xc yc _ rfl rfl (by omega) (by omega) HX.out HY.out).mono fun _ _ h => h.newBR).mono ?_; rintro e w4 ⟨pa, pc, rfl, hp, hpn, hE4⟩; go_wp2_with fail; refine hK.out _ _ ?_ (fun hHeld => ?_); rotate_left; clear hK K; (try simp only [Act.put, List.setIfInBounds_toArray, List.set_cons_zero, List.set_cons_succ]))
    rotate_left
    · exact hE4.cell hS
    have HPN : Hid (0 < (toB 1000000 (X1 + X2)).length → ∀ z, pa = some z → z.block ≠ w.heap.size + 1 + 1) := fun hl z hz => by have := hpn z hz; omega
    have HP := Lib.hid hp
    have R4 := R.ext hE4
    have E4 := E.trans hE4
    have HM4 := Lib.hid (HM.out.ext hE4)
    obtain ⟨c0, c1, c2, f0, f1, f2⟩ := R4
    have hSf := hE4.cell hS
    clear hE4 hp hpn R E HX HY HM hS hHeld
    (refine wpAnyE_pure (i := 6) (oi := ?_) (v := ?_) ?_ (by kernel_rfl) ?_ ?_ ?_ ?_; rotate_left 2; (focus ((simp only [List.getElem?_toArray, List.getElem?_cons_succ, List.getElem?_cons_zero]; exact rfl))); (focus (exact fun _ _ _ h => h)); (focus (refine Or.inl ⟨by rfl, ?_⟩; intro w hSw; clear hSw; (first | (go_simp; done) | (go_simp; with_reducible rfl)))); (focus (first | exact (fun _ => by assumption) | (intro hlst; exact absurd hlst (by kernel_rfl)) | (intro hlst; cases hlst))); (try simp only [Act.put, List.setIfInBounds_toArray, List.set_cons_zero, List.set_cons_succ]))
    clear hSf
    (refine wpAnyE_free (i := 7) (o := ?_) ?_ (by kernel_rfl) (by kernel_rfl) (fun K hK => ?_); rotate_left; (focus ((simp only [List.getElem?_toArray, List.getElem?_cons_succ, List.getElem?_cons_zero]; exact rfl))); go_simp; refine hK.out _ _ ?_; clear hK K; (try simp only [Act.put, List.setIfInBounds_toArray, List.set_cons_zero, List.set_cons_succ]))
    refine wpAnyE_done (by kernel_rfl) ?_ _
    go_wp2_with fail
    refine bodyPost_ret (v := .agg #[.bool s, .slice pa (toB 1000000 (X1 + X2)).length pc, .slice ma (toB 1000000 X3).length mc]) (by rw [results_cell1 rfl]; go_simp) rfl ?_
    refine ⟨_, rfl, ?_, (by repeat (first | with_reducible exact Ext.refl _ | with_reducible assumption | with_reducible apply Ext.drewN | with_reducible apply Ext.drew | with_reducible apply Ext.alloc | ((with_reducible refine Ext.set ?_ ?_ _); rotate_left; first | omega | (simp; omega)) | (with_reducible refine Ext.trans ?_ (by with_reducible assumption))))⟩
    rw [HE.out]
    exact ⟨pa, pc, ma, mc, rfl, HP.out.three HPN.out, HM4.out.three HMN.out⟩
  · have hsb : (s == r) = false := by rw [beq_eq_false_iff_ne]; exact hsr
    by_cases hle : X2 ≤ X1
    · have HE : Hid (SN = (s, X1 - X2, X3)) := HSN.out.trans (by rw [if_neg hsr, if_pos hle])
      obtain ⟨z, hz, hz0⟩ : ∃ z, ordN X1 X2 = z ∧ 0 ≤ z := ⟨_, rfl, ordN_ge.2 hle⟩
      have HLE := Lib.hid hle
      clear HSN hsr hle
      go_wp2_with fail
      refine (orderR_any X1 X2 _ _ xa ya xc yc w3 rfl rfl (by omega) (by omega) HX.out HY.out).mono ?_
      rintro e w5 ⟨rfl, hE⟩
      rw [hz]
      have hz5 := hE.size
      replace R := R.ext hE
      replace E := E.trans hE
      replace HX := Lib.hid (HX.out.ext hE)
      replace HY := Lib.hid (HY.out.ext hE)
      replace HM := Lib.hid (HM.out.ext hE)
      replace a0 := hE.cell a0
      replace b0 := hE.cell b0
      clear hE hz
      go_wp2_with fail
      have hdr : Ext w5 w5.drew := (by repeat (first | with_reducible exact Ext.refl _ | with_reducible assumption | with_reducible apply Ext.drewN | with_reducible apply Ext.drew | with_reducible apply Ext.alloc | ((with_reducible refine Ext.set ?_ ?_ _); rotate_left; first | omega | (simp; omega)) | (with_reducible refine Ext.trans ?_ (by with_reducible assumption))))
      have hS : w5.drew.cell? ⟨w.heap.size, 0, none⟩ = some (.bool s) := hdr.cell a0
      replace R := R.ext hdr
      replace E := E.trans hdr
      replace HX := Lib.hid (HX.out.ext hdr)
      replace HY := Lib.hid (HY.out.ext hdr)
      replace HM := Lib.hid (HM.out.ext hdr)
      have hzd : w5.drew.heap.size = w5.heap.size := rfl
      refine wp_region_heldE 7 (fun w' => w'.cell? ⟨w.heap.size, 0, none⟩ = some (.bool s)) (by kernel_rfl) ?_
      clear a0 b0 hdr
      generalize w5.drew = wd at R E HX HY HM hS hzd ⊢
      ((refine wpAnyE_take (i := 0) (oi := ?_) (v := ?_) ?_ (by kernel_rfl) ?_ ?_ (by assumption) ?_; rotate_left 2; (focus ((simp only [List.getElem?_toArray, List.getElem?_cons_zero]; exact rfl))); (focus (exact fun _ _ _ h => h)); (focus (refine Or.inl ⟨by rfl, ?_⟩; intro w hSw; (try dsimp only at hSw); (first | (go_simp; done) | (go_simp; with_reducible rfl)))); (try simp only [Act.put, List.setIfInBounds_toArray, List.set_cons_zero, List.set_cons_succ])); (refine wpAnyE_take (i := 1) (oi := ?_) (v := ?_) ?_ (by kernel_rfl) ?_ ?_ (by assumption) ?_; rotate_left 2; (focus ((simp only [List.getElem?_toArray, List.getElem?_cons_succ, List.getElem?_cons_zero]; exact rfl))); (focus (exact fun _ _ _ h => h)); (focus (refine Or.inl ⟨by rfl, ?_⟩; intro w hSw; (try dsimp only at hSw); (first | (go_simp; done) | (go_simp; with_reducible rfl)))); (try simp only [Act.put, List.setIfInBounds_toArray, List.set_cons_zero, List.set_cons_succ])); (refine wpAnyE_take (i := 2) (oi := ?_) (v := ?_) ?_ (by kernel_rfl) ?_ ?_ (by assumption) ?_; rotate_left 2; (focus ((simp only [List.getElem?_toArray, List.getElem?_cons_succ, List.getElem?_cons_zero]; exact rfl))); (focus (exact fun _ _ _ h => h)); (focus (refine Or.inl ⟨by rfl, ?_⟩; intro w hSw; (try dsimp only at hSw); (first | (go_simp; done) | (go_simp; with_reducible rfl)))); (try simp only [Act.put, List.setIfInBounds_toArray, List.set_cons_zero, List.set_cons_succ])); (refine wpAnyE_take (i := 3) (oi := ?_) (v := ?_) ?_ (by kernel_rfl) ?_ ?_ (by assumption) ?_; rotate_left 2; (focus ((simp only [List.getElem?_toArray, List.getElem?_cons_succ, List.getElem?_cons_zero]; exact rfl))); (focus (exact fun _ _ _ h => h)); (focus (refine Or.inl ⟨by rfl, ?_⟩; intro w hSw; (try dsimp only at hSw); (first | (go_simp; done) | (go_simp; with_reducible rfl)))); (try simp only [Act.put, List.setIfInBounds_toArray, List.set_cons_zero, List.set_cons_succ])); (refine wpAnyE_take (i := 5) (oi := ?_) (v := ?_) ?_ (by kernel_rfl) ?_ ?_ (by assumption) ?_; rotate_left 2; (focus ((simp only [List.getElem?_toArray, List.getElem?_cons_succ, List.getElem?_cons_zero]; exact rfl))); (focus (exact fun _ _ _ h => h)); (focus (refine Or.inl ⟨by rfl, ?_⟩; intro w hSw; (try dsimp only at hSw); (first | (go_simp; done) | (go_simp; with_reducible rfl)))); (try simp only [Act.put, List.setIfInBounds_toArray, List.set_cons_zero, List.set_cons_succ])))
      (refine wpAnyE_one (i := 4) (o := ?_) ?_ (by kernel_rfl) (fun K hK => ?_); rotate_left; (focus ((simp only [List.getElem?_toArray, List.getElem?_cons_succ, List.getElem?_cons_zero]; exact rfl))); go_simp; go_at_call 106; refine ((lessR_any X1 X2 _ _ xa ya xc yc _ rfl rfl HLE.out (by omega) HX.out HY.out).mono fun _ _ h => h.newBR).mono ?_; rintro e w4 ⟨pa, pc, rfl, hp, hpn, hE4⟩; go_wp2_with fail; refine hK.out _ _ ?_ (fun hHeld => ?_); rotate_left; clear hK K; (try simp only [Act.put, List.setIfInBounds_toArray, List.set_cons_zero, List.set_cons_succ]))
      rotate_left
      · exact hE4.cell hS
      have HPN : Hid (0 < (toB 1000000 (X1 - X2)).length → ∀ z, pa = some z → z.block ≠ w.heap.size + 1 + 1) := fun hl z hz => by have := hpn z hz; omega
      have HP := Lib.hid hp
      have R4 := R.ext hE4
      have E4 := E.trans hE4
      have HM4 := Lib.hid (HM.out.ext hE4)
      obtain ⟨c0, c1, c2, f0, f1, f2⟩ := R4
      have hSf := hE4.cell hS
      clear hE4 hp hpn R E HX HY HM hS hHeld
      (refine wpAnyE_pure (i := 6) (oi := ?_) (v := ?_) ?_ (by kernel_rfl) ?_ ?_ ?_ ?_; rotate_left 2; (focus ((simp only [List.getElem?_toArray, List.getElem?_cons_succ, List.getElem?_cons_zero]; exact rfl))); (focus (exact fun _ _ _ h => h)); (focus (refine Or.inl ⟨by rfl, ?_⟩; intro w hSw; clear hSw; (first | (go_simp; done) | (go_simp; with_reducible rfl)))); (focus (first | exact (fun _ => by assumption) | (intro hlst; exact absurd hlst (by kernel_rfl)) | (intro hlst; cases hlst))); (try simp only [Act.put, List.setIfInBounds_toArray, List.set_cons_zero, List.set_cons_succ]))
      clear hSf
      (refine wpAnyE_free (i := 7) (o := ?_) ?_ (by kernel_rfl) (by kernel_rfl) (fun K hK => ?_); rotate_left; (focus ((simp only [List.getElem?_toArray, List.getElem?_cons_succ, List.getElem?_cons_zero]; exact rfl))); go_simp; refine hK.out _ _ ?_; clear hK K; (try simp only [Act.put, List.setIfInBounds_toArray, List.set_cons_zero, List.set_cons_succ]))
      refine wpAnyE_done (by kernel_rfl) ?_ _
      go_wp2_with fail
      refine bodyPost_ret (v := .agg #[.bool s, .slice pa (toB 1000000 (X1 - X2)).length pc, .slice ma (toB 1000000 X3).length mc]) (by rw [results_cell1 rfl]; go_simp) rfl ?_
      refine ⟨_, rfl, ?_, (by repeat (first | with_reducible exact Ext.refl _ | with_reducible assumption | with_reducible apply Ext.drewN | with_reducible apply Ext.drew | with_reducible apply Ext.alloc | ((with_reducible refine Ext.set ?_ ?_ _); rotate_left; first | omega | (simp; omega)) | (with_reducible refine Ext.trans ?_ (by with_reducible assumption))))⟩
      rw [HE.out]
      exact ⟨pa, pc, ma, mc, rfl, HP.out.three HPN.out, HM4.out.three HMN.out⟩
    · have HE : Hid (SN = (r, X2 - X1, X3)) := HSN.out.trans (by rw [if_neg hsr, if_neg hle])
      obtain ⟨z, hz, hz0⟩ : ∃ z, ordN X1 X2 = z ∧ ¬ 0 ≤ z := ⟨_, rfl, fun h => hle (ordN_ge.1 h)⟩
      have HLE : Hid (X1 ≤ X2) := by show _ ≤ _; omega
      clear HSN hsr hle
      go_wp2_with fail
      refine (orderR_any X1 X2 _ _ xa ya xc yc w3 rfl rfl (by omega) (by omega) HX.out HY.out).mono ?_
      rintro e w5 ⟨rfl, hE⟩
      rw [hz]
      have hz5 := hE.size
      replace R := R.ext hE
      replace E := E.trans hE
      replace HX := Lib.hid (HX.out.ext hE)
      replace HY := Lib.hid (HY.out.ext hE)
      replace HM := Lib.hid (HM.out.ext hE)
      replace a0 := hE.cell a0
      replace b0 := hE.cell b0
      clear hE hz
      go_wp2_with fail
      have hdr : Ext w5 w5.drew := (by repeat (first | with_reducible exact Ext.refl _ | with_reducible assumption | with_reducible apply Ext.drewN | with_reducible apply Ext.drew | with_reducible apply Ext.alloc | ((with_reducible refine Ext.set ?_ ?_ _); rotate_left; first | omega | (simp; omega)) | (with_reducible refine Ext.trans ?_ (by with_reducible assumption))))
      have hS : w5.drew.cell? ⟨w.heap.size + 1, 0, none⟩ = some (.bool r) := hdr.cell b0
      replace R := R.ext hdr
      replace E := E.trans hdr
      replace HX := Lib.hid (HX.out.ext hdr)
      replace HY := Lib.hid (HY.out.ext hdr)
      replace HM := Lib.hid (HM.out.ext hdr)
      have hzd : w5.drew.heap.size = w5.heap.size := rfl
      refine wp_region_heldE 7 (fun w' => w'.cell? ⟨w.heap.size + 1, 0, none⟩ = some (.bool r)) (by kernel_rfl) ?_
      clear a0 b0 hdr
      generalize w5.drew = wd at R E HX HY HM hS hzd ⊢
      ((refine wpAnyE_take (i := 0) (oi := ?_) (v := ?_) ?_ (by kernel_rfl) ?_ ?_ (by assumption) ?_; rotate_left 2; (focus ((simp only [List.getElem?_toArray, List.getElem?_cons_zero]; exact rfl))); (focus (exact fun _ _ _ h => h)); (focus (refine Or.inl ⟨by rfl, ?_⟩; intro w hSw; (try dsimp only at hSw); (first | (go_simp; done) | (go_simp; with_reducible rfl)))); (try simp only [Act.put, List.setIfInBounds_toArray, List.set_cons_zero, List.set_cons_succ])); (refine wpAnyE_take (i := 1) (oi := ?_) (v := ?_) ?_ (by kernel_rfl) ?_ ?_ (by assumption) ?_; rotate_left 2; (focus ((simp only [List.getElem?_toArray, List.getElem?_cons_succ, List.getElem?_cons_zero]; exact rfl))); (focus (exact fun _ _ _ h => h)); (focus (refine Or.inl ⟨by rfl, ?_⟩; intro w hSw; (try dsimp only at hSw); (first | (go_simp; done) | (go_simp; with_reducible rfl)))); (try simp only [Act.put, List.setIfInBounds_toArray, List.set_cons_zero, List.set_cons_succ])); (refine wpAnyE_take (i := 2) (oi := ?_) (v := ?_) ?_ (by kernel_rfl) ?_ ?_ (by assumption) ?_; rotate_left 2; (focus ((simp only [List.getElem?_toArray, List.getElem?_cons_succ, List.getElem?_cons_zero]; exact rfl))); (focus (exact fun _ _ _ h => h)); (focus (refine Or.inl ⟨by rfl, ?_⟩; intro w hSw; (try dsimp only at hSw); (first | (go_simp; done) | (go_simp; with_reducible rfl)))); (try simp only [Act.put, List.setIfInBounds_toArray, List.set_cons_zero, List.set_cons_succ])); (refine wpAnyE_take (i := 3) (oi := ?_) (v := ?_) ?_ (by kernel_rfl) ?_ ?_ (by assumption) ?_; rotate_left 2; (focus ((simp only [List.getElem?_toArray, List.getElem?_cons_succ, List.getElem?_cons_zero]; exact rfl))); (focus (exact fun _ _ _ h => h)); (focus (refine Or.inl ⟨by rfl, ?_⟩; intro w hSw; (try dsimp only at hSw); (first | (go_simp; done) | (go_simp; with_reducible rfl)))); (try simp only [Act.put, List.setIfInBounds_toArray, List.set_cons_zero, List.set_cons_succ])); (refine wpAnyE_take (i := 5) (oi := ?_) (v := ?_) ?_ (by kernel_rfl) ?_ ?_ (by assumption) ?_; rotate_left 2; (focus ((simp only [List.getElem?_toArray, List.getElem?_cons_succ, List.getElem?_cons_zero]; exact rfl))); (focus (exact fun _ _ _ h => h)); (focus (refine Or.inl ⟨by rfl, ?_⟩; intro w hSw; (try dsimp only at hSw); (first | (go_simp; done) | (go_simp; with_reducible rfl)))); (try simp only [Act.put, List.setIfInBounds_toArray, List.set_cons_zero, List.set_cons_succ])))
      (refine wpAnyE_one (i := 4) (o := ?_) ?_ (by kernel_rfl) (fun K hK => ?_); rotate_left; (focus ((simp only [List.getElem?_toArray, List.getElem?_cons_succ, List.getElem?_cons_zero]; exact rfl))); go_simp; go_at_call 106; refine ((lessR_any X2 X1 _ _ ya xa yc xc _ rfl rfl HLE.out (by omega) HY.out HX.out).mono fun _ _ h => h.newBR).mono ?_; rintro e w4 ⟨pa, pc, rfl, hp, hpn, hE4⟩; go_wp2_with fail; refine hK.out _ _ ?_ (fun hHeld => ?_); rotate_left; clear hK K; (try simp only [Act.put, List.setIfInBounds_toArray, List.set_cons_zero, List.set_cons_succ]))
      rotate_left
      · exact hE4.cell hS
      have HPN : Hid (0 < (toB 1000000 (X2 - X1)).length → ∀ z, pa = some z → z.block ≠ w.heap.size + 1 + 1) := fun hl z hz => by have := hpn z hz; omega
      have HP := Lib.hid hp
      have R4 := R.ext hE4
      have E4 := E.trans hE4
      have HM4 := Lib.hid (HM.out.ext hE4)
      obtain ⟨c0, c1, c2, f0, f1, f2⟩ := R4
      have hSf := hE4.cell hS
      clear hE4 hp hpn R E HX HY HM hS hHeld
      (refine wpAnyE_pure (i := 6) (oi := ?_) (v := ?_) ?_ (by kernel_rfl) ?_ ?_ ?_ ?_; rotate_left 2; (focus ((simp only [List.getElem?_toArray, List.getElem?_cons_succ, List.getElem?_cons_zero]; exact rfl))); (focus (exact fun _ _ _ h => h)); (focus (refine Or.inl ⟨by rfl, ?_⟩; intro w hSw; clear hSw; (first | (go_simp; done) | (go_simp; with_reducible rfl)))); (focus (first | exact (fun _ => by assumption) | (intro hlst; exact absurd hlst (by kernel_rfl)) | (intro hlst; cases hlst))); (try simp only [Act.put, List.setIfInBounds_toArray, List.set_cons_zero, List.set_cons_succ]))
      clear hSf
      (refine wpAnyE_free (i := 7) (o := ?_) ?_ (by kernel_rfl) (by kernel_rfl) (fun K hK => ?_); rotate_left; (focus ((simp only [List.getElem?_toArray, List.getElem?_cons_succ, List.getElem?_cons_zero]; exact rfl))); go_simp; refine hK.out _ _ ?_; clear hK K; (try simp only [Act.put, List.setIfInBounds_toArray, List.set_cons_zero, List.set_cons_succ]))
      refine wpAnyE_done (by kernel_rfl) ?_ _
      go_wp2_with fail
      refine bodyPost_ret (v := .agg #[.bool r, .slice pa (toB 1000000 (X2 - X1)).length pc, .slice ma (toB 1000000 X3).length mc]) (by rw [results_cell1 rfl]; go_simp) rfl ?_
      refine ⟨_, rfl, ?_, (by repeat (first | with_reducible exact Ext.refl _ | with_reducible assumption | with_reducible apply Ext.drewN | with_reducible apply Ext.drew | with_reducible apply Ext.alloc | ((with_reducible refine Ext.set ?_ ?_ _); rotate_left; first | omega | (simp; omega)) | (with_reducible refine Ext.trans ?_ (by with_reducible assumption))))⟩
      rw [HE.out]
      exact ⟨pa, pc, ma, mc, rfl, HP.out.three HPN.out, HM4.out.three HMN.out⟩
end Go.Proofs.YtpfanpkinlklnaaGreatDoor
/- The reference's operations: Add, Sub, Mul, Div, Order, Compare, Turned, Neg, Floor and Ceil. -/
namespace Go.Proofs.YtpfanpkinlklnaaGreatDoor
open Go.RowKit
open Go.Lib (decDigits itoa)

theorem pow60 : (1000000 : Nat) ^ 10 = 10 ^ 60 := by decide
theorem numOf_lenR {a : Txt} (h : fracE a = 0) : LenR 10 (numOf a) := by
  obtain ⟨h1, h2, h3, h4, h5, h6, _⟩ := frac_parts h
  rw [intV_abs] at h2
  exact ⟨toB_len (by omega) 10 (by rw [pow60]; exact h2), toB_len (by omega) 10 (by rw [pow60]; exact h5)⟩
theorem both_two {a b : Txt} (h : bothE a b = 0) : fracE a = 0 ∧ fracE b = 0 := by
  unfold bothE at h
  by_cases ea : fracE a = 0
  · rw [if_pos ea] at h; exact ⟨ea, h⟩
  · rw [if_neg ea] at h; exact absurd h ea
theorem sumN_lenR {k l : Nat} {x y : Num} (hx : LenR k x) (hy : LenR l y) : LenR (k + l + 1) (sumN x y) := by
  obtain ⟨s, t, d⟩ := x
  obtain ⟨r, p, q⟩ := y
  have m1 := mul_lenR hx.1 hy.2
  have m2 := mul_lenR hy.1 hx.2
  have m3 := mul_lenR hx.2 hy.2
  dsimp only at m1 m2 m3
  have e : sumN (s, t, d) (r, p, q) = if s = r then (s, t * q + p * d, d * q) else if p * d ≤ t * q then (s, t * q - p * d, d * q) else (r, p * d - t * q, d * q) := rfl
  have hp : (1000000 : Nat) ^ (k + l + 1) = 1000000 * 1000000 ^ (k + l) := by rw [Nat.pow_succ, Nat.mul_comm]
  have lt : ∀ {z j : Nat}, (toB 1000000 z).length ≤ j → z < 1000000 ^ j := fun {z j} h => by
    have h1 := valB_lt (okB_toB (B := 1000000) (by omega) z)
    rw [valB_toB (by omega)] at h1
    exact Nat.lt_of_lt_of_le h1 (Nat.pow_le_pow_right (by omega) h)
  have n1 := lt m1
  have n2 := lt m2
  rw [Nat.add_comm l k] at n2
  have h3 : (toB 1000000 (d * q)).length ≤ k + l + 1 := by omega
  rw [e]
  split
  · exact ⟨toB_len (by omega) _ (by dsimp only; omega), h3⟩
  · split
    · exact ⟨toB_len (by omega) _ (by dsimp only; omega), h3⟩
    · exact ⟨toB_len (by omega) _ (by dsimp only; omega), h3⟩
theorem add_num {a b : Txt} (ea : fracE a = 0) (eb : fracE b = 0) : addS a b = resQ (valQ (sumN (numOf a) (numOf b))) ∧ (sumN (numOf a) (numOf b)).2.2 ≠ 0 := by
  obtain ⟨h1, h2⟩ := sumN_val (numOf_len ea).2 (numOf_len eb).2
  refine ⟨?_, h2⟩
  unfold addS ifOk
  rw [if_pos (bothE_zero ea eb), h1, numOf_val, numOf_val]
theorem neg_low {x : Num} : (negN x).2.2 = x.2.2 := rfl
theorem sub_num {a b : Txt} (ea : fracE a = 0) (eb : fracE b = 0) : subS a b = resQ (valQ (sumN (numOf a) (negN (numOf b)))) ∧ (sumN (numOf a) (negN (numOf b))).2.2 ≠ 0 := by
  obtain ⟨h1, h2⟩ := sumN_val (x := numOf a) (y := negN (numOf b)) (numOf_len ea).2 (numOf_len eb).2
  refine ⟨?_, h2⟩
  unfold subS ifOk
  rw [if_pos (bothE_zero ea eb), h1, negN_val, numOf_val, numOf_val, Rat.sub_eq_add_neg]
theorem cmp_num {a b : Txt} (ea : fracE a = 0) (eb : fracE b = 0) : (fracQ a - fracQ b).num.sign = signN (sumN (numOf a) (negN (numOf b))) := by
  obtain ⟨h1, h2⟩ := sumN_val (x := numOf a) (y := negN (numOf b)) (numOf_len ea).2 (numOf_len eb).2
  have h3 : valQ (sumN (numOf a) (negN (numOf b))) = fracQ a - fracQ b := by rw [h1, negN_val, numOf_val, numOf_val, Rat.sub_eq_add_neg]
  rw [← h3]
  unfold valQ signN
  exact num_sign h2
theorem mul_num {a b : Txt} (ea : fracE a = 0) (eb : fracE b = 0) : mulS a b = resQ (valQ (mulN (numOf a) (numOf b))) ∧ (mulN (numOf a) (numOf b)).2.2 ≠ 0 := by
  refine ⟨?_, Nat.mul_ne_zero (numOf_len ea).2 (numOf_len eb).2⟩
  unfold mulS ifOk
  rw [if_pos (bothE_zero ea eb), mulN_val, numOf_val, numOf_val]
theorem up_mul (x y : Num) : mulN x (upN y) = divN x y := rfl
theorem div_num {a b : Txt} (ea : fracE a = 0) (eb : fracE b = 0) (h0 : b ≠ [48]) : divS a b = resQ (valQ (mulN (numOf a) (upN (numOf b)))) ∧ (mulN (numOf a) (upN (numOf b))).2.2 ≠ 0 := by
  have hz : (numOf b).2.1 ≠ 0 := fun e => h0 ((Good.any eb).zero.2 (by rw [← numOf_val]; exact (num_zero (numOf_len eb).2).2 e))
  refine ⟨?_, Nat.mul_ne_zero (numOf_len ea).2 hz⟩
  unfold divS ifOk
  rw [if_pos (bothE_zero ea eb), if_neg h0, up_mul, divN_val (numOf_len eb).2 hz, numOf_val, numOf_val]
theorem res_val (x : Num) : resQ (valQ x) = (madeT (numQ x.1 x.2.1 x.2.2), madeE (numQ x.1 x.2.1 x.2.2)) := rfl
theorem mulN_lenR {k l : Nat} {x y : Num} (hx : LenR k x) (hy : LenR l y) : LenR (k + l) (mulN x y) := ⟨mul_lenR hx.1 hy.1, mul_lenR hx.2 hy.2⟩
theorem upN_lenR {k : Nat} {x : Num} (h : LenR k x) : LenR k (upN x) := ⟨h.2, h.1⟩

set_option maxHeartbeats 4000000 in
set_option maxRecDepth 100000 in
theorem rAdd_any (a b : Txt) (w : World) (ha : a.length ≤ 400) (hb : b.length ≤ 400) : Calls Tryz.prog 30 #[txt a, txt b] w (ResP (addS a b) w) := by
  have HB := Lib.hid (rBoth_any a b w ha hb)
  unfold ResP
  by_cases e0 : bothE a b = 0
  rotate_left
  · have HR : Hid (addS a b = ([], bothE a b)) := by show _ = _; unfold addS ifOk badR; rw [if_neg e0]
    have hne : (((bothE a b : Nat) : Int) != 0) = true := by rw [bne_iff_ne]; omega
    rw [HR.out]
    clear e0 HR
    generalize bothE a b = n at *
    go_enter Tryz.func30, Tryz.ntmps30
    go_wp2_with (go_at_call 70; with_reducible refine HB.out.mono ?_; rintro e w1 ⟨rfl, hE⟩)
    go_ret2
    exact ⟨rfl, hE⟩
  obtain ⟨ea, eb⟩ := both_two e0
  have HN1 := Lib.hid (fun W => numR_any a W ea ha)
  have HN2 := Lib.hid (fun W => numR_any b W eb hb)
  have HL1 := Lib.hid (numOf_lenR ea)
  have HL2 := Lib.hid (numOf_lenR eb)
  have HR := Lib.hid (add_num ea eb)
  rw [e0] at HB
  clear e0 ea eb
  rw [HR.out.1, res_val]
  generalize numOf a = NA at *
  generalize numOf b = NB at *
  have HLS := Lib.hid (sumN_lenR HL1.out HL2.out)
  obtain ⟨SN, hSN⟩ : ∃ SN, SN = sumN NA NB := ⟨_, rfl⟩
  rw [← hSN] at HR HLS ⊢
  have HSN := Lib.hid hSN
  clear hSN
  go_enter Tryz.func30, Tryz.ntmps30
  go_wp2_with (first
    | (go_at_call 70; with_reducible refine HB.out.mono ?_; rintro e w1 ⟨rfl, hE⟩)
    | (go_at_call 66; have hh := HN1; clear HN1; refine (hh.out _).mono ?_; clear hh; rintro e w2 ⟨v2, rfl, n2, e2⟩))
  go_wp2_with (go_at_call 66; refine (HN2.out _).mono ?_; rintro e w3 ⟨v3, rfl, n3, e3⟩)
  have E := (hE.trans e2).trans e3
  have n2 := n2.ext e3
  go_wp2_with (go_at_call 71; refine (rSum_any NA NB v2 v3 w3 n2 n3 (HL1.out.mono (by omega)) (HL2.out.mono (by omega))).mono ?_; rintro e w5 ⟨v5, rfl, n5, e5⟩)
  replace E := E.trans e5
  rw [← HSN.out] at n5
  go_wp2_with (go_at_call 56; refine (madeR_any SN.1 SN.2.1 SN.2.2 v5 w5 n5 HR.out.2 (Nat.le_trans HLS.out.1 (by omega)) (Nat.le_trans HLS.out.2 (by omega))).mono ?_; rintro e w6 ⟨rfl, e6⟩)
  go_ret2
  exact ⟨rfl, E.trans e6⟩
set_option maxHeartbeats 4000000 in
set_option maxRecDepth 100000 in
theorem rSub_any (a b : Txt) (w : World) (ha : a.length ≤ 400) (hb : b.length ≤ 400) : Calls Tryz.prog 32 #[txt a, txt b] w (ResP (subS a b) w) := by
  have HB := Lib.hid (rBoth_any a b w ha hb)
  unfold ResP
  by_cases e0 : bothE a b = 0
  rotate_left
  · have HR : Hid (subS a b = ([], bothE a b)) := by show _ = _; unfold subS ifOk badR; rw [if_neg e0]
    have hne : (((bothE a b : Nat) : Int) != 0) = true := by rw [bne_iff_ne]; omega
    rw [HR.out]
    clear e0 HR
    generalize bothE a b = n at *
    go_enter Tryz.func32, Tryz.ntmps32
    go_wp2_with (go_at_call 70; with_reducible refine HB.out.mono ?_; rintro e w1 ⟨rfl, hE⟩)
    go_ret2
    exact ⟨rfl, hE⟩
  obtain ⟨ea, eb⟩ := both_two e0
  have HN1 := Lib.hid (fun W => numR_any a W ea ha)
  have HN2 := Lib.hid (fun W => numR_any b W eb hb)
  have HL1 := Lib.hid (numOf_lenR ea)
  have HL2 := Lib.hid (numOf_lenR eb)
  have HR := Lib.hid (sub_num ea eb)
  rw [e0] at HB
  clear e0 ea eb
  rw [HR.out.1, res_val]
  generalize numOf a = NA at *
  generalize numOf b = NB at *
  have HLS := Lib.hid (sumN_lenR (y := negN NB) HL1.out HL2.out)
  obtain ⟨SN, hSN⟩ : ∃ SN, SN = sumN NA (negN NB) := ⟨_, rfl⟩
  rw [← hSN] at HR HLS ⊢
  have HSN := Lib.hid hSN
  clear hSN
  go_enter Tryz.func32, Tryz.ntmps32
  go_wp2_with (first
    | (go_at_call 70; with_reducible refine HB.out.mono ?_; rintro e w1 ⟨rfl, hE⟩)
    | (go_at_call 66; have hh := HN1; clear HN1; refine (hh.out _).mono ?_; clear hh; rintro e w2 ⟨v2, rfl, n2, e2⟩))
  go_wp2_with (go_at_call 66; refine (HN2.out _).mono ?_; rintro e w3 ⟨v3, rfl, n3, e3⟩)
  have E := (hE.trans e2).trans e3
  have n2 := n2.ext e3
  go_wp2_with (go_at_call 72; refine (rTurn_any NB v3 w3 n3).mono ?_; rintro e w4 ⟨v4, rfl, n4, e4⟩)
  replace E := E.trans e4
  replace n2 := n2.ext e4
  go_wp2_with (go_at_call 71; refine (rSum_any NA (negN NB) v2 v4 w4 n2 n4 (HL1.out.mono (by omega)) (HL2.out.mono (by omega))).mono ?_; rintro e w5 ⟨v5, rfl, n5, e5⟩)
  replace E := E.trans e5
  rw [← HSN.out] at n5
  go_wp2_with (go_at_call 56; refine (madeR_any SN.1 SN.2.1 SN.2.2 v5 w5 n5 HR.out.2 (Nat.le_trans HLS.out.1 (by omega)) (Nat.le_trans HLS.out.2 (by omega))).mono ?_; rintro e w6 ⟨rfl, e6⟩)
  go_ret2
  exact ⟨rfl, E.trans e6⟩
set_option maxHeartbeats 4000000 in
set_option maxRecDepth 100000 in
theorem rMul_any (a b : Txt) (w : World) (ha : a.length ≤ 400) (hb : b.length ≤ 400) : Calls Tryz.prog 34 #[txt a, txt b] w (ResP (mulS a b) w) := by
  have HB := Lib.hid (rBoth_any a b w ha hb)
  unfold ResP
  by_cases e0 : bothE a b = 0
  rotate_left
  · have HR : Hid (mulS a b = ([], bothE a b)) := by show _ = _; unfold mulS ifOk badR; rw [if_neg e0]
    have hne : (((bothE a b : Nat) : Int) != 0) = true := by rw [bne_iff_ne]; omega
    rw [HR.out]
    clear e0 HR
    generalize bothE a b = n at *
    go_enter Tryz.func34, Tryz.ntmps34
    go_wp2_with (go_at_call 70; with_reducible refine HB.out.mono ?_; rintro e w1 ⟨rfl, hE⟩)
    go_ret2
    exact ⟨rfl, hE⟩
  obtain ⟨ea, eb⟩ := both_two e0
  have HN1 := Lib.hid (fun W => numR_any a W ea ha)
  have HN2 := Lib.hid (fun W => numR_any b W eb hb)
  have HL1 := Lib.hid (numOf_lenR ea)
  have HL2 := Lib.hid (numOf_lenR eb)
  have HR := Lib.hid (mul_num ea eb)
  rw [e0] at HB
  clear e0 ea eb
  rw [HR.out.1, res_val]
  generalize numOf a = NA at *
  generalize numOf b = NB at *
  have HLS := Lib.hid (mulN_lenR HL1.out HL2.out)
  obtain ⟨SN, hSN⟩ : ∃ SN, SN = mulN NA NB := ⟨_, rfl⟩
  rw [← hSN] at HR HLS ⊢
  have HSN := Lib.hid hSN
  clear hSN
  go_enter Tryz.func34, Tryz.ntmps34
  go_wp2_with (first
    | (go_at_call 70; with_reducible refine HB.out.mono ?_; rintro e w1 ⟨rfl, hE⟩)
    | (go_at_call 66; have hh := HN1; clear HN1; refine (hh.out _).mono ?_; clear hh; rintro e w2 ⟨v2, rfl, n2, e2⟩))
  go_wp2_with (go_at_call 66; refine (HN2.out _).mono ?_; rintro e w3 ⟨v3, rfl, n3, e3⟩)
  have E := (hE.trans e2).trans e3
  have n2 := n2.ext e3
  go_wp2_with (go_at_call 73; refine (rProd_any NA NB v2 v3 w3 n2 n3 (HL1.out.mono (by omega)) (HL2.out.mono (by omega))).mono ?_; rintro e w5 ⟨v5, rfl, n5, e5⟩)
  replace E := E.trans e5
  rw [← HSN.out] at n5
  go_wp2_with (go_at_call 56; refine (madeR_any SN.1 SN.2.1 SN.2.2 v5 w5 n5 HR.out.2 (Nat.le_trans HLS.out.1 (by omega)) (Nat.le_trans HLS.out.2 (by omega))).mono ?_; rintro e w6 ⟨rfl, e6⟩)
  go_ret2
  exact ⟨rfl, E.trans e6⟩
set_option maxHeartbeats 4000000 in
set_option maxRecDepth 100000 in
theorem rDiv_any (a b : Txt) (w : World) (ha : a.length ≤ 400) (hb : b.length ≤ 400) : Calls Tryz.prog 36 #[txt a, txt b] w (ResP (divS a b) w) := by
  have HB := Lib.hid (rBoth_any a b w ha hb)
  unfold ResP
  by_cases e0 : bothE a b = 0
  rotate_left
  · have HR : Hid (divS a b = ([], bothE a b)) := by show _ = _; unfold divS ifOk badR; rw [if_neg e0]
    have hne : (((bothE a b : Nat) : Int) != 0) = true := by rw [bne_iff_ne]; omega
    rw [HR.out]
    clear e0 HR
    generalize bothE a b = n at *
    go_enter Tryz.func36, Tryz.ntmps36
    go_wp2_with (go_at_call 70; with_reducible refine HB.out.mono ?_; rintro e w1 ⟨rfl, hE⟩)
    go_ret2
    exact ⟨rfl, hE⟩
  obtain ⟨ea, eb⟩ := both_two e0
  have HN1 := Lib.hid (fun W => numR_any a W ea ha)
  have HN2 := Lib.hid (fun W => numR_any b W eb hb)
  have HL1 := Lib.hid (numOf_lenR ea)
  have HL2 := Lib.hid (numOf_lenR eb)
  rw [e0] at HB
  by_cases h0 : b = [48]
  · have hz : (b == [48]) = true := by rw [h0]; rfl
    have HR : Hid (divS a b = ([], 10)) := by show _ = _; unfold divS ifOk; rw [if_pos e0, if_pos h0]
    rw [HR.out]
    clear e0 h0 HR ea eb HN1 HN2
    go_enter Tryz.func36, Tryz.ntmps36
    go_wp2_with (go_at_call 70; with_reducible refine HB.out.mono ?_; rintro e w1 ⟨rfl, hE⟩)
    go_ret2
    exact ⟨rfl, hE⟩
  have hz : (b == [48]) = false := by rw [beq_eq_false_iff_ne]; exact h0
  have HR := Lib.hid (div_num ea eb h0)
  clear e0 ea eb h0
  rw [HR.out.1, res_val]
  generalize numOf a = NA at *
  generalize numOf b = NB at *
  have HLS := Lib.hid (mulN_lenR HL1.out (upN_lenR HL2.out))
  obtain ⟨SN, hSN⟩ : ∃ SN, SN = mulN NA (upN NB) := ⟨_, rfl⟩
  rw [← hSN] at HR HLS ⊢
  have HSN := Lib.hid hSN
  clear hSN
  go_enter Tryz.func36, Tryz.ntmps36
  go_wp2_with (first
    | (go_at_call 70; with_reducible refine HB.out.mono ?_; rintro e w1 ⟨rfl, hE⟩)
    | (go_at_call 66; have hh := HN1; clear HN1; refine (hh.out _).mono ?_; clear hh; rintro e w2 ⟨v2, rfl, n2, e2⟩))
  go_wp2_with (go_at_call 66; refine (HN2.out _).mono ?_; rintro e w3 ⟨v3, rfl, n3, e3⟩)
  have E := (hE.trans e2).trans e3
  have n2 := n2.ext e3
  go_wp2_with (go_at_call 74; refine (rUp_any NB v3 w3 n3).mono ?_; rintro e w4 ⟨v4, rfl, n4, e4⟩)
  replace E := E.trans e4
  replace n2 := n2.ext e4
  go_wp2_with (go_at_call 73; refine (rProd_any NA (upN NB) v2 v4 w4 n2 n4 (HL1.out.mono (by omega)) ((upN_lenR HL2.out).mono (by omega))).mono ?_; rintro e w5 ⟨v5, rfl, n5, e5⟩)
  replace E := E.trans e5
  rw [← HSN.out] at n5
  go_wp2_with (go_at_call 56; refine (madeR_any SN.1 SN.2.1 SN.2.2 v5 w5 n5 HR.out.2 (Nat.le_trans HLS.out.1 (by omega)) (Nat.le_trans HLS.out.2 (by omega))).mono ?_; rintro e w6 ⟨rfl, e6⟩)
  go_ret2
  exact ⟨rfl, E.trans e6⟩
set_option maxHeartbeats 4000000 in
set_option maxRecDepth 100000 in
theorem rOrder_any (a b : Txt) (w : World) (ea : fracE a = 0) (eb : fracE b = 0) (ha : a.length ≤ 400) (hb : b.length ≤ 400) :
    Calls Tryz.prog 77 #[txt a, txt b] w fun e w' => e = .returned (.int .i64 (fracQ a - fracQ b).num.sign) ∧ Ext w w' := by
  have HS := Lib.hid (cmp_num ea eb)
  have HN1 := Lib.hid (fun W => numR_any a W ea ha)
  have HN2 := Lib.hid (fun W => numR_any b W eb hb)
  have HL1 := Lib.hid (numOf_lenR ea)
  have HL2 := Lib.hid (numOf_lenR eb)
  rw [HS.out]
  clear HS ea eb
  generalize numOf a = NA at *
  generalize numOf b = NB at *
  obtain ⟨SN, hSN⟩ : ∃ SN, SN = sumN NA (negN NB) := ⟨_, rfl⟩
  rw [← hSN]
  have HSN := Lib.hid hSN
  clear hSN
  obtain ⟨s, t, d⟩ := SN
  by_cases h0 : t = 0
  · have hl : (((toB 1000000 t).length : Int) == 0) = true := by rw [lenR_zero h0]; rfl
    have HS : Hid (signN (s, t, d) = 0) := by show _ = _; unfold signN; rw [if_pos h0]
    clear h0
    go_enter Tryz.func77, Tryz.ntmps77
    go_wp2_with (go_at_call 66; have hh := HN1; clear HN1; refine (hh.out _).mono ?_; clear hh; rintro e w2 ⟨v2, rfl, n2, e2⟩)
    go_wp2_with (go_at_call 66; refine (HN2.out _).mono ?_; rintro e w3 ⟨v3, rfl, n3, e3⟩)
    have E := e2.trans e3
    have n2 := n2.ext e3
    go_wp2_with (go_at_call 72; refine (rTurn_any NB v3 w3 n3).mono ?_; rintro e w4 ⟨v4, rfl, n4, e4⟩)
    replace E := E.trans e4
    replace n2 := n2.ext e4
    go_wp2_with (go_at_call 71; refine (rSum_any NA (negN NB) v2 v4 w4 n2 n4 (HL1.out.mono (by omega)) (HL2.out.mono (by omega))).mono ?_; rintro e w5 ⟨v5, rfl, n5, e5⟩; rw [← HSN.out] at n5; obtain ⟨ta, tc, ba, bc, rfl, _, _⟩ := n5; dsimp only)
    replace E := E.trans e5
    go_ret
    exact ⟨ret_int HS.out.symm, (by repeat (first | with_reducible exact Ext.refl _ | with_reducible assumption | with_reducible apply Ext.drewN | with_reducible apply Ext.drew | with_reducible apply Ext.alloc | ((with_reducible refine Ext.set ?_ ?_ _); rotate_left; first | omega | (simp; omega)) | (with_reducible refine Ext.trans ?_ (by with_reducible assumption))))⟩
  · have hl : (((toB 1000000 t).length : Int) == 0) = false := by rw [beq_eq_false_iff_ne]; have := lenR_pos h0; omega
    cases s
    · have HS : Hid (signN (false, t, d) = 1) := by show _ = _; unfold signN; rw [if_neg h0]; rfl
      clear h0
      go_enter Tryz.func77, Tryz.ntmps77
      go_wp2_with (go_at_call 66; have hh := HN1; clear HN1; refine (hh.out _).mono ?_; clear hh; rintro e w2 ⟨v2, rfl, n2, e2⟩)
      go_wp2_with (go_at_call 66; refine (HN2.out _).mono ?_; rintro e w3 ⟨v3, rfl, n3, e3⟩)
      have E := e2.trans e3
      have n2 := n2.ext e3
      go_wp2_with (go_at_call 72; refine (rTurn_any NB v3 w3 n3).mono ?_; rintro e w4 ⟨v4, rfl, n4, e4⟩)
      replace E := E.trans e4
      replace n2 := n2.ext e4
      go_wp2_with (go_at_call 71; refine (rSum_any NA (negN NB) v2 v4 w4 n2 n4 (HL1.out.mono (by omega)) (HL2.out.mono (by omega))).mono ?_; rintro e w5 ⟨v5, rfl, n5, e5⟩; rw [← HSN.out] at n5; obtain ⟨ta, tc, ba, bc, rfl, _, _⟩ := n5; dsimp only)
      replace E := E.trans e5
      go_ret
      exact ⟨ret_int HS.out.symm, (by repeat (first | with_reducible exact Ext.refl _ | with_reducible assumption | with_reducible apply Ext.drewN | with_reducible apply Ext.drew | with_reducible apply Ext.alloc | ((with_reducible refine Ext.set ?_ ?_ _); rotate_left; first | omega | (simp; omega)) | (with_reducible refine Ext.trans ?_ (by with_reducible assumption))))⟩
    · have HS : Hid (signN (true, t, d) = -1) := by show _ = _; unfold signN; rw [if_neg h0]; rfl
      clear h0
      go_enter Tryz.func77, Tryz.ntmps77
      go_wp2_with (go_at_call 66; have hh := HN1; clear HN1; refine (hh.out _).mono ?_; clear hh; rintro e w2 ⟨v2, rfl, n2, e2⟩)
      go_wp2_with (go_at_call 66; refine (HN2.out _).mono ?_; rintro e w3 ⟨v3, rfl, n3, e3⟩)
      have E := e2.trans e3
      have n2 := n2.ext e3
      go_wp2_with (go_at_call 72; refine (rTurn_any NB v3 w3 n3).mono ?_; rintro e w4 ⟨v4, rfl, n4, e4⟩)
      replace E := E.trans e4
      replace n2 := n2.ext e4
      go_wp2_with (go_at_call 71; refine (rSum_any NA (negN NB) v2 v4 w4 n2 n4 (HL1.out.mono (by omega)) (HL2.out.mono (by omega))).mono ?_; rintro e w5 ⟨v5, rfl, n5, e5⟩; rw [← HSN.out] at n5; obtain ⟨ta, tc, ba, bc, rfl, _, _⟩ := n5; dsimp only)
      replace E := E.trans e5
      go_ret
      exact ⟨ret_int HS.out.symm, (by repeat (first | with_reducible exact Ext.refl _ | with_reducible assumption | with_reducible apply Ext.drewN | with_reducible apply Ext.drew | with_reducible apply Ext.alloc | ((with_reducible refine Ext.set ?_ ?_ _); rotate_left; first | omega | (simp; omega)) | (with_reducible refine Ext.trans ?_ (by with_reducible assumption))))⟩
set_option maxHeartbeats 4000000 in
set_option maxRecDepth 100000 in
theorem rCompare_any (a b : Txt) (w : World) (ha : a.length ≤ 400) (hb : b.length ≤ 400) : Calls Tryz.prog 38 #[txt a, txt b] w (IntP (cmpS a b).1 (cmpS a b).2 w) := by
  have HB := Lib.hid (rBoth_any a b w ha hb)
  unfold IntP
  by_cases e0 : bothE a b = 0
  rotate_left
  · have HR : Hid (cmpS a b = (0, bothE a b)) := by show _ = _; unfold cmpS ifOk; rw [if_neg e0]
    have hne : (((bothE a b : Nat) : Int) != 0) = true := by rw [bne_iff_ne]; omega
    rw [HR.out]
    clear e0 HR
    generalize bothE a b = n at *
    go_enter Tryz.func38, Tryz.ntmps38
    go_wp2_with (go_at_call 70; with_reducible refine HB.out.mono ?_; rintro e w1 ⟨rfl, hE⟩)
    go_ret2
    exact ⟨rfl, hE⟩
  obtain ⟨ea, eb⟩ := both_two e0
  have HO := Lib.hid (fun W => rOrder_any a b W ea eb ha hb)
  have HR : Hid (cmpS a b = ((fracQ a - fracQ b).num.sign, 0)) := by show _ = _; unfold cmpS ifOk; rw [if_pos e0]
  rw [e0] at HB
  rw [HR.out]
  clear e0 ea eb HR
  generalize (fracQ a - fracQ b).num.sign = z at *
  go_enter Tryz.func38, Tryz.ntmps38
  go_wp2_with (first
    | (go_at_call 70; with_reducible refine HB.out.mono ?_; rintro e w1 ⟨rfl, hE⟩)
    | (go_at_call 77; with_reducible refine (HO.out _).mono ?_; rintro e w2 ⟨rfl, hE2⟩))
  go_ret2
  exact ⟨rfl, hE.trans hE2⟩
set_option maxHeartbeats 4000000 in
set_option maxRecDepth 100000 in
theorem rTurned_any (a : Txt) (w : World) (ea : fracE a = 0) (ha : a.length ≤ 400) : Calls Tryz.prog 63 #[txt a] w fun e w' => e = .returned (txt (negR a).1) ∧ Ext w w' := by
  have HN := Lib.hid (fun W => numR_any a W ea ha)
  have HL := Lib.hid (numOf_lenR ea)
  have HD := Lib.hid (numOf_len ea).2
  have HR : Hid (negR a = resQ (numQ (negN (numOf a)).1 (negN (numOf a)).2.1 (negN (numOf a)).2.2)) := by
    show _ = _
    rw [neg_res ea, opp_val, numOf_val]
  rw [HR.out]
  clear HR ea
  generalize numOf a = NA at *
  go_enter Tryz.func63, Tryz.ntmps63
  go_wp2_with (go_at_call 66; refine (HN.out _).mono ?_; rintro e w2 ⟨v2, rfl, n2, e2⟩)
  go_wp2_with (go_at_call 72; refine (rTurn_any NA v2 w2 n2).mono ?_; rintro e w4 ⟨v4, rfl, n4, e4⟩)
  go_wp2_with (go_at_call 56; refine (madeR_any (negN NA).1 (negN NA).2.1 (negN NA).2.2 v4 w4 n4 HD.out (Nat.le_trans HL.out.1 (by omega)) (Nat.le_trans HL.out.2 (by omega))).mono ?_; rintro e w6 ⟨rfl, e6⟩)
  go_ret
  exact ⟨rfl, (e2.trans e4).trans e6⟩
set_option maxHeartbeats 4000000 in
theorem rNeg_any (a : Txt) (w : World) (ha : a.length ≤ 400) : Calls Tryz.prog 21 #[txt a] w (ResP (negR a) w) := by
  have HC := Lib.hid (checkR_any a w ha)
  unfold ResP
  by_cases ea : fracE a = 0
  · have HT := Lib.hid (fun W => rTurned_any a W ea ha)
    have HR := Lib.hid (neg_right ea).1
    rw [ea] at HC
    rw [HR.out]
    clear ea HR
    generalize (negR a).1 = b at *
    go_enter Tryz.func21, Tryz.ntmps21
    go_wp2_with (first
      | (go_at_call 50; with_reducible refine HC.out.mono ?_; rintro e w1 ⟨rfl, hE⟩)
      | (go_at_call 63; with_reducible refine (HT.out _).mono ?_; rintro e w2 ⟨rfl, hE2⟩))
    go_ret2
    exact ⟨rfl, hE.trans hE2⟩
  · have HR := Lib.hid (neg_bad ea)
    have hne : (((fracE a : Nat) : Int) != 0) = true := by rw [bne_iff_ne]; omega
    rw [HR.out]
    clear ea HR
    generalize fracE a = n at *
    go_enter Tryz.func21, Tryz.ntmps21
    go_wp2_with (go_at_call 50; with_reducible refine HC.out.mono ?_; rintro e w1 ⟨rfl, hE⟩)
    go_ret2
    exact ⟨rfl, hE⟩
end Go.Proofs.YtpfanpkinlklnaaGreatDoor
/- Sums of lists of texts: the reference's FewAll, and Sum on both sides. -/
namespace Go.Proofs.YtpfanpkinlklnaaGreatDoor
open Go.RowKit
open Go.Lib (decDigits itoa)

def CellsT (w : World) (a : Option Addr) (l : List Txt) : Prop :=
  ∀ i, i < l.length → ∃ b off, a = some ⟨b, off, none⟩ ∧ w.cell? ⟨b, off + i, none⟩ = some (txt (l.getD i []))
theorem CellsT.ext {w w' : World} {a : Option Addr} {l : List Txt} (h : CellsT w a l) (he : Ext w w') : CellsT w' a l := fun i hi => by
  obtain ⟨b, off, h1, h2⟩ := h i hi
  exact ⟨b, off, h1, he.cell h2⟩
theorem getD_txt {l : List Txt} {k : Nat} (h : k < l.length) : l.getD k [] = l[k] := by simp [List.getD, h]
theorem drop_txt {l : List Txt} {k : Nat} (h : k < l.length) : l.drop k = l.getD k [] :: l.drop (k + 1) := by
  rw [List.drop_eq_getElem_cons h, getD_txt h]
theorem mem_txt {l : List Txt} {k : Nat} (h : k < l.length) : l.getD k [] ∈ l := by
  rw [getD_txt h]; exact List.getElem_mem h
/-- the lists that the law sums -/
def FewL (l : List Txt) : Prop := (l.length ≤ 8 ∧ ∀ x ∈ l, x.length ≤ 180) ∨ 4096 < l.length
theorem firstE_drop {l : List Txt} {k : Nat} (h : k < l.length) : firstE (l.drop k) = if fracE (l.getD k []) = 0 then firstE (l.drop (k + 1)) else fracE (l.getD k []) := by
  rw [drop_txt h]; rfl
theorem addS_bad {o x : Txt} (h : (addS o x).2 ≠ 0) : addS o x = ([], (addS o x).2) := by
  unfold addS ifOk badR at *
  by_cases e : bothE o x = 0
  · rw [if_pos e] at h ⊢
    unfold resQ at *
    by_cases f : FitQ (fracQ o + fracQ x)
    · exact absurd (made_right4 f).2.1 h
    · rw [(made_wrong4 f).1]
  · rw [if_neg e]
theorem addS_len (o x : Txt) : (addS o x).1.length ≤ 122 := by
  unfold addS ifOk badR
  split
  · exact madeT_len _
  · simp
theorem addAll_bad {r : Res} (h : r.2 ≠ 0) (hr : r = ([], r.2)) (l : List Txt) : addAll r l = ([], r.2) := by
  cases l with
  | nil => exact hr
  | cons a l => unfold addAll ifOk badR; rw [if_neg h]
theorem addAll_next {o : Txt} {l : List Txt} {k : Nat} (h : k < l.length) : addAll (o, 0) (l.drop k) = addAll (addS o (l.getD k [])) (l.drop (k + 1)) := by
  rw [drop_txt h]; rfl
theorem sum_many {l : List Txt} (h : 4096 < l.length) : sumR l = ([], 5) := by unfold sumR; rw [if_pos h]
theorem sum_first {l : List Txt} (h : ¬ 4096 < l.length) (h1 : firstE l ≠ 0) : sumR l = ([], firstE l) := by unfold sumR ifOk badR; rw [if_neg h, if_neg h1]
theorem sum_all {l : List Txt} (h : ¬ 4096 < l.length) (h1 : firstE l = 0) : sumR l = addAll ([48], 0) l := by unfold sumR ifOk; rw [if_neg h, if_pos h1]
/-- what FewAll answers -/
def FewP (l : List Txt) (w : World) (e : Ending) (w' : World) : Prop := ∃ B : Bool, e = .returned (.bool B) ∧ Ext w w' ∧ (B = true → FewL l)

set_option maxHeartbeats 4000000 in
set_option maxRecDepth 100000 in
theorem rFewAll_any (l : List Txt) (a : Option Addr) (cap : Nat) (w : World) (hc : CellsT w a l) (hm : l.length ≤ 9223372036854775807) :
    Calls Tryz.prog 26 #[.slice a l.length cap] w (FewP l w) := by
  have HC := Lib.hid hc
  have HF := Lib.hid (fun s W => fewR_any s W)
  clear hc
  go_enter Tryz.func26, Tryz.ntmps26
  go_wp2
  go_loopw [3] (fun i wr => ∃ k : Nat, k ≤ l.length ∧ k ≤ 9 ∧ i = .int .i64 k ∧ Hid (∀ j, j < k → (l.getD j []).length ≤ 180) ∧ Ext w wr) (fun i _ => l.length - (intOf i).toNat)
  case atStart => exact ⟨0, by omega, by omega, rfl, (fun j hj => by omega), Ext.refl _⟩
  case round =>
    obtain ⟨k, hk, hk9, rfl, HK, he⟩ := hrel
    by_cases hlt : k < l.length ∧ k < 9
    · obtain ⟨hlt, hlt9⟩ := hlt
      have hki : (k : Int) < (l.length : Int) := by omega
      have hk9i : (k : Int) < 9 := by omega
      obtain ⟨b, off, ha, hcell⟩ := HC.out.ext he k hlt
      subst ha
      have HX : Hid (∀ j, j < k → (l.getD j []).length ≤ 180) := HK
      by_cases hx : (l.getD k []).length ≤ 180
      · have HK2 : Hid (∀ j, j < k + 1 → (l.getD j []).length ≤ 180) := fun j hj => by
          rcases Nat.lt_or_ge j k with h | h
          · exact HK.out j h
          · have : j = k := by omega
            rw [this]; exact hx
        have HFX := Lib.hid (HF.out (l.getD k []))
        rw [decide_eq_true hx] at HFX
        generalize l.getD k [] = x at hcell HFX
        clear hx HK HX
        go_wp2_with (go_at_call 12; with_reducible refine (HFX.out _).mono ?_; rintro e w' ⟨rfl, rfl⟩)
        refine ⟨⟨k + 1, by omega, by omega, by go_num, HK2, he⟩, by simp [intOf]; omega⟩
      · have HFX := Lib.hid (HF.out (l.getD k []))
        rw [decide_eq_false hx] at HFX
        generalize l.getD k [] = x at hcell HFX
        clear hx HK HX
        go_wp2_with (go_at_call 12; with_reducible refine (HFX.out _).mono ?_; rintro e w' ⟨rfl, rfl⟩)
        go_ret
        exact ⟨false, rfl, he, fun h => by cases h⟩
    · have HB : Hid (l.length ≤ 8 → FewL l) := fun h8 => .inl ⟨h8, fun x hx => by
        obtain ⟨j, hj, rfl⟩ := List.mem_iff_getElem.1 hx
        have h1 := HK.out j (by omega)
        rwa [getD_txt hj] at h1⟩
      have HM : Hid (4096 < l.length → FewL l) := fun h => .inr h
      clear HK HC
      by_cases h8 : l.length ≤ 8
      · have h8i : (l.length : Int) ≤ 8 := by omega
        have hki : ¬ (k : Int) < (l.length : Int) := by omega
        have h0 := HB.out h8
        clear HB HM hlt
        go_wp2
        go_ret
        exact ⟨true, rfl, he, fun _ => h0⟩
      · have h8i : ¬ (l.length : Int) ≤ 8 := by omega
        have hk9 : k = 9 := by omega
        subst hk9
        clear hlt HB
        by_cases hmm : 4096 < l.length
        · have hmi : (4096 : Int) < (l.length : Int) := by omega
          have h0 := HM.out hmm
          clear HM
          by_cases h2 : l.length < 8192
          · have h2i : (l.length : Int) < 8192 := by omega
            go_wp2
            go_ret
            exact ⟨true, rfl, he, fun _ => h0⟩
          · have h2i : ¬ (l.length : Int) < 8192 := by omega
            go_wp2
            go_ret
            exact ⟨false, rfl, he, fun h => by cases h⟩
        · have hmi : ¬ (4096 : Int) < (l.length : Int) := by omega
          clear HM
          go_wp2
          all_goals
            go_ret
            exact ⟨false, rfl, he, fun h => by cases h⟩

set_option maxHeartbeats 4000000 in
set_option maxRecDepth 100000 in
theorem rSums_any (l : List Txt) (a : Option Addr) (cap : Nat) (w : World) (hc : CellsT w a l) (hm : l.length ≤ 9223372036854775807) (hF : FewL l) :
    Calls Tryz.prog 28 #[.slice a l.length cap] w (ResP (sumR l) w) := by
  unfold ResP
  by_cases hmany : 4096 < l.length
  · rw [sum_many hmany]
    have hi : (4096 : Int) < (l.length : Int) := by omega
    clear hc hF
    go_enter Tryz.func28, Tryz.ntmps28
    go_wp2
    go_ret2
    exact ⟨rfl, (by repeat (first | with_reducible exact Ext.refl _ | with_reducible assumption | with_reducible apply Ext.drewN | with_reducible apply Ext.drew | with_reducible apply Ext.alloc | ((with_reducible refine Ext.set ?_ ?_ _); rotate_left; first | omega | (simp; omega)) | (with_reducible refine Ext.trans ?_ (by with_reducible assumption))))⟩
  have hl8 : l.length ≤ 8 ∧ ∀ x ∈ l, x.length ≤ 180 := hF.elim id (fun h => absurd h hmany)
  have HC := Lib.hid hc
  have HK := Lib.hid (fun k (hk : k < l.length) W => checkR_any (l.getD k []) W (by have := hl8.2 _ (mem_txt hk); omega))
  have HA := Lib.hid (fun o k (hk : k < l.length) (ho : o.length ≤ 400) W => rAdd_any o (l.getD k []) W ho (by have := hl8.2 _ (mem_txt hk); omega))
  have hi : ¬ (4096 : Int) < (l.length : Int) := by omega
  have HB := Lib.hid (fun h => sum_first hmany (l := l) h)
  have HG := Lib.hid (fun h => sum_all hmany (l := l) h)
  obtain ⟨h8, _⟩ := hl8
  clear hc hF hmany
  unfold ResP at HA
  obtain ⟨S, hS⟩ : ∃ S, S = sumR l := ⟨_, rfl⟩
  rw [← hS] at HB HG ⊢
  clear hS
  go_enter Tryz.func28, Tryz.ntmps28
  go_wp2
  go_loopw [4] (fun i wr => ∃ k : Nat, k ≤ l.length ∧ i = .int .i64 k ∧ Hid (firstE l = firstE (l.drop k)) ∧ Ext w wr) (fun i _ => l.length - (intOf i).toNat)
  case atStart => exact ⟨0, by omega, rfl, rfl, Ext.refl _⟩
  case round =>
    obtain ⟨k, hk, rfl, HE, he⟩ := hrel
    by_cases hlt : k < l.length
    · have hki : (k : Int) < (l.length : Int) := by omega
      obtain ⟨b, off, ha, hcell⟩ := HC.out.ext he k hlt
      subst ha
      have HKX := Lib.hid (HK.out k hlt)
      have hst := firstE_drop hlt
      by_cases hx : fracE (l.getD k []) = 0
      · have HE2 : Hid (firstE l = firstE (l.drop (k + 1))) := by show _ = _; rw [HE.out, hst, if_pos hx]
        rw [hx] at HKX
        generalize l.getD k [] = x at hcell HKX
        clear hx HE hst
        go_wp2_with (go_at_call 50; with_reducible refine (HKX.out _).mono ?_; rintro e w1 ⟨rfl, hE⟩)
        refine ⟨⟨k + 1, by omega, by go_num, HE2, he.trans hE⟩, by simp [intOf]; omega⟩
      · have hfe : firstE l = fracE (l.getD k []) := by rw [HE.out, hst, if_neg hx]
        have hR := HB.out (by rw [hfe]; exact hx)
        rw [hfe] at hR
        have HR := Lib.hid hR
        have hne : (((fracE (l.getD k []) : Nat) : Int) != 0) = true := by rw [bne_iff_ne]; omega
        clear hx HE hst hfe hR
        generalize fracE (l.getD k []) = n at *
        generalize l.getD k [] = x at hcell HKX
        go_wp2_with (go_at_call 50; with_reducible refine (HKX.out _).mono ?_; rintro e w1 ⟨rfl, hE⟩)
        go_ret2
        exact ⟨by rw [HR.out]; rfl, he.trans hE⟩
    · have hki : ¬ (k : Int) < (l.length : Int) := by omega
      have hkl : k = l.length := by omega
      have h0 : firstE l = 0 := by rw [HE.out, hkl, List.drop_eq_nil_of_le (Nat.le_refl _)]; rfl
      have HS := Lib.hid (HG.out h0)
      clear hlt hkl h0 HE HB HG HK
      go_wp2
      go_loopw [7, 6] (fun i o wr => ∃ (k : Nat) (t : Txt), k ≤ l.length ∧ i = .int .i64 k ∧ o = txt t ∧ t.length ≤ 400 ∧ Hid (S = addAll (t, 0) (l.drop k)) ∧ Ext w wr) (fun i _ _ => l.length - (intOf i).toNat)
      case atStart => exact ⟨0, [48], by omega, rfl, rfl, by simp, HS.out, he⟩
      case round =>
        obtain ⟨k, t, hk, rfl, rfl, ht, HT, he⟩ := hrel
        by_cases hlt : k < l.length
        · have hki : (k : Int) < (l.length : Int) := by omega
          obtain ⟨b, off, ha, hcell⟩ := HC.out.ext he k hlt
          subst ha
          have HAX := Lib.hid (HA.out t k hlt ht)
          have hst := addAll_next (o := t) hlt
          have hlen := addS_len t (l.getD k [])
          by_cases hx : (addS t (l.getD k [])).2 = 0
          · have HT2 : Hid (S = addAll ((addS t (l.getD k [])).1, 0) (l.drop (k + 1))) := by show _ = _; rw [HT.out, hst, ← hx]
            rw [hx] at HAX
            generalize (addS t (l.getD k [])).1 = r at *
            generalize l.getD k [] = x at hcell HAX
            clear hx HT hst
            go_wp2_with (go_at_call 30; with_reducible refine (HAX.out _).mono ?_; rintro e w1 ⟨rfl, hE⟩)
            refine ⟨⟨k + 1, r, by omega, by go_num, rfl, by omega, HT2, he.trans hE⟩, by simp [intOf]; omega⟩
          · have hR : S = ([], (addS t (l.getD k [])).2) := by rw [HT.out, hst]; exact addAll_bad hx (addS_bad hx) _
            have HR := Lib.hid hR
            have hne : ((((addS t (l.getD k [])).2 : Nat) : Int) != 0) = true := by rw [bne_iff_ne]; omega
            clear hx HT hst hR hlen
            generalize addS t (l.getD k []) = r at *
            generalize l.getD k [] = x at hcell HAX
            go_wp2_with (go_at_call 30; with_reducible refine (HAX.out _).mono ?_; rintro e w1 ⟨rfl, hE⟩)
            go_ret2
            exact ⟨by rw [HR.out]; rfl, he.trans hE⟩
        · have hki : ¬ (k : Int) < (l.length : Int) := by omega
          have hR : S = (t, 0) := by rw [HT.out, List.drop_eq_nil_of_le (by omega)]; rfl
          have HR := Lib.hid hR
          clear HT hR
          go_wp2
          go_ret2
          exact ⟨by rw [HR.out]; rfl, he⟩
end Go.Proofs.YtpfanpkinlklnaaGreatDoor
