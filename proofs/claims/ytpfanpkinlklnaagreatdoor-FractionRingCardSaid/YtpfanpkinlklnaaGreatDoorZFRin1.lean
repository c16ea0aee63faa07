/- Steps of the proof: FLMak, FSumsP, FRing, FRefS, FCmpF, FPrtF, FLPar, FLPrt, FSumF, FRinC, FRinP, Float. No conditions. -/
import Derived.Test.YtpfanpkinlklnaaGreatDoorZFB1
import Derived.Test.YtpfanpkinlklnaaGreatDoorZFB2
import Derived.Test.YtpfanpkinlklnaaGreatDoorZFB3
import Derived.Test.YtpfanpkinlklnaaGreatDoorZFB4
import Derived.Test.YtpfanpkinlklnaaGreatDoorZFB5
import Derived.Test.YtpfanpkinlklnaaGreatDoorZFB6
import Derived.Test.YtpfanpkinlklnaaGreatDoorZFB7
import Derived.Test.YtpfanpkinlklnaaGreatDoorZFB8
import Derived.Test.YtpfanpkinlklnaaGreatDoorZFB9
import Derived.Test.YtpfanpkinlklnaaGreatDoorZFB10
import Derived.Test.YtpfanpkinlklnaaGreatDoorZFB11
/- The laws' functions FractionMakes and FractionCounts. -/
namespace Go.Proofs.YtpfanpkinlklnaaGreatDoor
open Go.RowKit
open Go.Lib (decDigits itoa)

theorem beq_self (l : Txt) : (l == l) = true := beq_self_eq_true l
/-- the law's function answers true -/
def TrueP (w : World) (e : Ending) (w' : World) : Prop := e = .returned (.bool true) ∧ Ext w w'
set_option maxHeartbeats 4000000 in
set_option maxRecDepth 100000 in
theorem lawMakes_any (s t : Txt) (w : World) (hG : Glob w) : Calls Tryz.prog 3 #[txt s, txt t] w (TrueP w) := by
  have HG := Lib.hid hG
  have HA : Hid (∀ W, Ext w W → Calls Tryz.prog 13 #[] W fun e w' => e = .returned (.bool true) ∧ Ext W w') := fun W h => awake_any W (HG.out.ext h)
  have HF1 := Lib.hid (fun W => fewR_any s W)
  have HF2 := Lib.hid (fun W => fewR_any t W)
  clear hG
  unfold TrueP
  by_cases hs : s.length ≤ 180
  · rw [decide_eq_true hs] at HF1
    by_cases ht : t.length ≤ 180
    · rw [decide_eq_true ht] at HF2
      have HM : Hid (∀ W, Ext w W → Calls Tryz.prog 14 #[txt s, txt t] W (ResP (makeR s t) W)) := fun W h => make_any s t W (HG.out.ext h) (by omega) (by omega)
      have HR : Hid (∀ W, Calls Tryz.prog 15 #[txt s, txt t] W (ResP (makeR s t) W)) := fun W => makeR_any s t W (by omega) (by omega)
      unfold ResP at HM HR
      generalize makeR s t = R at *
      clear hs ht
      have E := Ext.refl w
      go_enter Tryz.func3, Tryz.ntmps3
      go_wp2_with (go_at_call 12; first | (with_reducible refine (HF1.out _).mono ?_; rintro e w' ⟨rfl, rfl⟩) | (with_reducible refine (HF2.out _).mono ?_; rintro e w' ⟨rfl, rfl⟩))
      go_wp2_with (go_at_call 14; refine (HM.out _ E).mono ?_; rintro e w1 ⟨rfl, h⟩)
      replace E := E.trans h
      clear h
      go_wp2_with (go_at_call 15; refine (HR.out _).mono ?_; rintro e w2 ⟨rfl, h⟩)
      replace E := E.trans h
      clear h
      go_wp2_with (go_at_call 13; refine (HA.out _ E).mono ?_; rintro e w3 ⟨rfl, h⟩)
      have hb := beq_self R.1
      go_wp2
      go_ret
      exact ⟨rfl, E.trans h⟩
    · rw [decide_eq_false ht] at HF2
      clear hs ht
      have E := Ext.refl w
      go_enter Tryz.func3, Tryz.ntmps3
      go_wp2_with (go_at_call 12; first | (with_reducible refine (HF1.out _).mono ?_; rintro e w' ⟨rfl, rfl⟩) | (with_reducible refine (HF2.out _).mono ?_; rintro e w' ⟨rfl, rfl⟩))
      go_wp2_with (go_at_call 13; refine (HA.out _ E).mono ?_; rintro e w3 ⟨rfl, h⟩)
      go_ret
      exact ⟨rfl, h⟩
  · rw [decide_eq_false hs] at HF1
    clear hs
    have E := Ext.refl w
    go_enter Tryz.func3, Tryz.ntmps3
    go_wp2_with (go_at_call 12; (with_reducible refine (HF1.out _).mono ?_; rintro e w' ⟨rfl, rfl⟩))
    go_wp2_with (go_at_call 13; refine (HA.out _ E).mono ?_; rintro e w3 ⟨rfl, h⟩)
    go_ret
    exact ⟨rfl, h⟩
set_option maxHeartbeats 4000000 in
set_option maxRecDepth 100000 in
theorem lawCounts_any (m n : Int) (w : World) (hG : Glob w) (h1 : -9223372036854775808 ≤ m) (h2 : m ≤ 9223372036854775807) (h3 : -9223372036854775808 ≤ n) (h4 : n ≤ 9223372036854775807) :
    Calls Tryz.prog 4 #[.int .i64 m, .int .i64 n] w (TrueP w) := by
  have HG := Lib.hid hG
  have HA : Hid (∀ W, Ext w W → Calls Tryz.prog 13 #[] W fun e w' => e = .returned (.bool true) ∧ Ext W w') := fun W h => awake_any W (HG.out.ext h)
  have HM : Hid (∀ W, Ext w W → Calls Tryz.prog 16 #[.int .i64 m, .int .i64 n] W (ResP (makeR (itoa m) (itoa n)) W)) := fun W h => of_any m n W (HG.out.ext h) h1 h2 h3 h4
  have HR : Hid (∀ W, Calls Tryz.prog 17 #[.int .i64 m, .int .i64 n] W (ResP (makeR (itoa m) (itoa n)) W)) := fun W => ofR_any m n W h1 h2 h3 h4
  have HW1 : Hid (∀ W, Ext w W → Calls Tryz.prog 18 #[.int .i64 m] W fun e w' => e = .returned (txt (itoa m)) ∧ Ext W w') := fun W h => whole_any m W (HG.out.ext h) h1 h2
  have HW2 : Hid (∀ W, Calls Tryz.prog 19 #[.int .i64 m] W fun e w' => e = .returned (txt (itoa m)) ∧ Ext W w') := fun W => wholeR_any m W h1 h2
  clear hG
  unfold ResP at HM HR
  unfold TrueP
  generalize makeR (itoa m) (itoa n) = R at *
  have E := Ext.refl w
  go_enter Tryz.func4, Tryz.ntmps4
  go_wp2_with (go_at_call 16; refine (HM.out _ E).mono ?_; rintro e w1 ⟨rfl, h⟩)
  replace E := E.trans h
  clear h
  go_wp2_with (go_at_call 17; refine (HR.out _).mono ?_; rintro e w2 ⟨rfl, h⟩)
  replace E := E.trans h
  clear h
  have hb := beq_self R.1
  have hb2 := beq_self (itoa m)
  generalize itoa m = tm at *
  go_wp2_with (go_at_call 13; refine (HA.out _ E).mono ?_; rintro e w3 ⟨rfl, h⟩)
  replace E := E.trans h
  clear h
  go_wp2_with (go_at_call 18; refine (HW1.out _ E).mono ?_; rintro e w4 ⟨rfl, h⟩)
  replace E := E.trans h
  clear h
  go_wp2_with (go_at_call 19; refine (HW2.out _).mono ?_; rintro e w5 ⟨rfl, h⟩)
  replace E := E.trans h
  clear h
  go_wp2
  go_ret
  exact ⟨rfl, E⟩
end Go.Proofs.YtpfanpkinlklnaaGreatDoor
/- Lists of texts in memory, and their sums in plain terms. -/
namespace Go.Proofs.YtpfanpkinlklnaaGreatDoor
open Go.RowKit
open Go.Lib (decDigits itoa)

def CellsT (w : World) (a : Option Addr) (l : List Txt) : Prop :=
  ∀ i, i < l.length → ∃ b off, a = some ⟨b, off, none⟩ ∧ w.cell? ⟨b, off + i, none⟩ = some (txt (l.getD i []))
theorem CellsT.ext {w w' : World} {a : Option Addr} {l : List Txt} (h : CellsT w a l) (he : Ext w w') : CellsT w' a l := fun i hi => by
  obtain ⟨b, off, h1, h2⟩ := h i hi
  exact ⟨b, off, h1, he.cell h2⟩
theorem getD_txt {l : List Txt} {k : Nat} (h : k < l.length) : l.getD k [] = l[k] := by simp [List.getD, h]
theorem drop_txt {l : List Txt} {k : Nat} (h : k < l.length) : l.drop k = l.getD k [] :: l.drop (k + 1) := by
  rw [List.drop_eq_getElem_cons h, getD_txt h]
theorem mem_txt {l : List Txt} {k : Nat} (h : k < l.length) : l.getD k [] ∈ l := by
  rw [getD_txt h]; exact List.getElem_mem h
/-- the lists that the law sums -/
def FewL (l : List Txt) : Prop := (l.length ≤ 8 ∧ ∀ x ∈ l, x.length ≤ 180) ∨ 4096 < l.length
theorem firstE_drop {l : List Txt} {k : Nat} (h : k < l.length) : firstE (l.drop k) = if fracE (l.getD k []) = 0 then firstE (l.drop (k + 1)) else fracE (l.getD k []) := by
  rw [drop_txt h]; rfl
theorem addS_bad {o x : Txt} (h : (addS o x).2 ≠ 0) : addS o x = ([], (addS o x).2) := by
  unfold addS ifOk badR at *
  by_cases e : bothE o x = 0
  · rw [if_pos e] at h ⊢
    unfold resQ at *
    by_cases f : FitQ (fracQ o + fracQ x)
    · exact absurd (made_right4 f).2.1 h
    · rw [(made_wrong4 f).1]
  · rw [if_neg e]
theorem addS_len (o x : Txt) : (addS o x).1.length ≤ 122 := by
  unfold addS ifOk badR
  split
  · exact madeT_len _
  · simp
theorem addAll_bad {r : Res} (h : r.2 ≠ 0) (hr : r = ([], r.2)) (l : List Txt) : addAll r l = ([], r.2) := by
  cases l with
  | nil => exact hr
  | cons a l => unfold addAll ifOk badR; rw [if_neg h]
theorem addAll_next {o : Txt} {l : List Txt} {k : Nat} (h : k < l.length) : addAll (o, 0) (l.drop k) = addAll (addS o (l.getD k [])) (l.drop (k + 1)) := by
  rw [drop_txt h]; rfl
theorem sum_many {l : List Txt} (h : 4096 < l.length) : sumR l = ([], 5) := by unfold sumR; rw [if_pos h]
theorem sum_first {l : List Txt} (h : ¬ 4096 < l.length) (h1 : firstE l ≠ 0) : sumR l = ([], firstE l) := by unfold sumR ifOk badR; rw [if_neg h, if_neg h1]
theorem sum_all {l : List Txt} (h : ¬ 4096 < l.length) (h1 : firstE l = 0) : sumR l = addAll ([48], 0) l := by unfold sumR ifOk; rw [if_neg h, if_pos h1]
end Go.Proofs.YtpfanpkinlklnaaGreatDoor
/- The laws of the layer of fractions, in plain terms. No program in sight. -/
namespace Go.Proofs.YtpfanpkinlklnaaGreatDoor
open Go.Lib (decDigits itoa)

/-- a right text of a value that is not long -/
structure Good (K : Nat) (t : Txt) (q : Rat) : Prop where
  ok : fracE t = 0
  val : fracQ t = q
  fit : FitB K q
theorem Good.short {a : Txt} (h : fracE a = 0) (hl : a.length ≤ 10) : Good 10 a (fracQ a) := ⟨h, rfl, short_fit h hl⟩
theorem Good.of {K : Nat} {q : Rat} (h : FitB K q) (hK : K ≤ 60) : resQ q = (fracT q, 0) ∧ Good K (fracT q) q := by
  obtain ⟨h1, h2⟩ := made_fit (h.fit hK)
  obtain ⟨h3, h4⟩ := frac_of (h.fit hK)
  exact ⟨by unfold resQ; rw [h1, h2], ⟨h3, h4, h⟩⟩
theorem Good.both {K L : Nat} {s t : Txt} {q r : Rat} (h : Good K s q) (k : Good L t r) : bothE s t = 0 := by
  unfold bothE; rw [if_pos h.ok]; exact k.ok
theorem Good.add {K L : Nat} {s t : Txt} {q r : Rat} (h : Good K s q) (k : Good L t r) (hK : K + L + 1 ≤ 60) : addS s t = (fracT (q + r), 0) ∧ Good (K + L + 1) (fracT (q + r)) (q + r) := by
  obtain ⟨h1, h2⟩ := Good.of (h.fit.add k.fit) hK
  refine ⟨?_, h2⟩
  unfold addS ifOk
  rw [if_pos (h.both k), h.val, k.val, h1]
theorem Good.sub {K L : Nat} {s t : Txt} {q r : Rat} (h : Good K s q) (k : Good L t r) (hK : K + L + 1 ≤ 60) : subS s t = (fracT (q - r), 0) ∧ Good (K + L + 1) (fracT (q - r)) (q - r) := by
  obtain ⟨h1, h2⟩ := Good.of (h.fit.sub k.fit) hK
  refine ⟨?_, h2⟩
  unfold subS ifOk
  rw [if_pos (h.both k), h.val, k.val, h1]
theorem Good.mul {K L : Nat} {s t : Txt} {q r : Rat} (h : Good K s q) (k : Good L t r) (hK : K + L ≤ 60) : mulS s t = (fracT (q * r), 0) ∧ Good (K + L) (fracT (q * r)) (q * r) := by
  obtain ⟨h1, h2⟩ := Good.of (h.fit.mul k.fit) hK
  refine ⟨?_, h2⟩
  unfold mulS ifOk
  rw [if_pos (h.both k), h.val, k.val, h1]
theorem int_good {n : Int} {K : Nat} (hK : 0 < K) (h60 : K ≤ 60) (h : n.natAbs < 10 ^ K) : Good K (itoa n) (n : Rat) := by
  rw [← fracT_int]
  exact (Good.of (fit_int hK h) h60).2
theorem zero_good : Good 1 [48] 0 := by
  have h := int_good (n := 0) (K := 1) (by omega) (by omega) (by decide)
  rwa [show itoa 0 = [48] from (Go.Lib.itoa_nonneg 0).trans (digits_small (by omega)), Rat.intCast_zero] at h
theorem one_good : Good 1 [49] 1 := by
  have h := int_good (n := 1) (K := 1) (by omega) (by omega) (by decide)
  rwa [show itoa 1 = [49] from (Go.Lib.itoa_nonneg 1).trans (digits_small (by omega)), Rat.intCast_one] at h
theorem Good.inj {K L : Nat} {s t : Txt} {q : Rat} (h : Good K s q) (k : Good L t q) : s = t := frac_inj h.ok k.ok (h.val.trans k.val.symm)
theorem Good.zero {K : Nat} {s : Txt} {q : Rat} (h : Good K s q) : s = [48] ↔ q = 0 := by
  constructor
  · rintro rfl; rw [← h.val]; exact zero_good.val
  · rintro rfl; exact h.inj zero_good
theorem Good.div {K L : Nat} {s t : Txt} {q r : Rat} (h : Good K s q) (k : Good L t r) (hK : K + (L + 1) ≤ 60) (hr : r ≠ 0) : divS s t = (fracT (q / r), 0) ∧ Good (K + (L + 1)) (fracT (q / r)) (q / r) := by
  obtain ⟨h1, h2⟩ := Good.of (h.fit.div k.fit) hK
  refine ⟨?_, h2⟩
  unfold divS ifOk
  rw [if_pos (h.both k), if_neg (fun e => hr (k.zero.1 e)), h.val, k.val, h1]
theorem Good.neg {K : Nat} {s : Txt} {q : Rat} (h : Good K s q) (hK : K ≤ 60) : negR s = (fracT (-q), 0) ∧ Good K (fracT (-q)) (-q) := by
  refine ⟨?_, (Good.of h.fit.neg hK).2⟩
  unfold negR ifOk
  rw [if_pos h.ok, h.val]
theorem Good.floor {K : Nat} {s : Txt} {q : Rat} (h : Good K s q) (h0 : 0 < K) (hK : K ≤ 60) : floorR s = (itoa q.floor, 0) ∧ Good K (itoa q.floor) (q.floor : Rat) := by
  have h1 := int_good h0 hK (Nat.lt_of_le_of_lt (floor_abs q) h.fit.1)
  refine ⟨?_, h1⟩
  unfold floorR ifOk
  rw [if_pos h.ok, h.val, (Good.of h1.fit hK).1, fracT_int]
theorem Good.ceil {K : Nat} {s : Txt} {q : Rat} (h : Good K s q) (h0 : 0 < K) (hK : K ≤ 60) : ceilR s = (itoa q.ceil, 0) ∧ Good K (itoa q.ceil) (q.ceil : Rat) := by
  have h1 := int_good h0 hK (Nat.lt_of_le_of_lt (ceil_abs q) h.fit.1)
  refine ⟨?_, h1⟩
  unfold ceilR ifOk
  rw [if_pos h.ok, h.val, (Good.of h1.fit hK).1, fracT_int]
theorem Good.cmp {K L : Nat} {s t : Txt} {q r : Rat} (h : Good K s q) (k : Good L t r) : cmpS s t = ((q - r).num.sign, 0) := by
  unfold cmpS ifOk
  rw [if_pos (h.both k), h.val, k.val]
theorem Good.sign {K : Nat} {s : Txt} {q : Rat} (h : Good K s q) : signS s = (q.num.sign, 0) := by
  unfold signS ifOk
  rw [if_pos h.ok, h.val]
theorem Good.small {n : Int} (h : n.natAbs < 10 ^ 10) : smallR (itoa n) = (n, 0) := by
  have k := int_good (by omega) (by omega) h
  unfold smallR ifOk
  rw [if_pos k.ok, k.val, Rat.num_intCast, Rat.den_intCast, if_pos]
  have : (10 : Nat) ^ 10 = 10000000000 := by decide
  exact ⟨rfl, by omega, by omega⟩

/-! ### The laws -/
theorem law_swap (q r : Rat) : fracT (r + q) = fracT (q + r) ∧ fracT (r * q) = fracT (q * r) := by
  rw [Rat.add_comm, Rat.mul_comm]; exact ⟨rfl, rfl⟩
theorem law_undo (q r : Rat) : q + r - r = q := Rat.add_sub_cancel
theorem law_rest (q : Rat) : q + -q = 0 := Rat.add_neg_cancel q
/-- the differences of a fraction, its floor and its ceiling -/
theorem law_gap {a : Txt} {q : Rat} (h : Good 10 a q) : (fracT ((q.ceil : Rat) - (q.floor : Rat)) = [48] ∧ itoa q.floor = a) ∨
    (fracT ((q.ceil : Rat) - (q.floor : Rat)) = [49] ∧ ((q.floor : Rat) - q).num.sign < 0 ∧ (q - (q.ceil : Rat)).num.sign < 0) := by
  have e : (q.ceil : Rat) - (q.floor : Rat) = ((q.ceil - q.floor : Int) : Rat) := (Rat.intCast_sub _ _).symm
  rcases floor_ceil q with ⟨h1, h2⟩ | ⟨h1, h2, h3⟩
  · left
    rw [e, h1, fracT_int]
    refine ⟨(Go.Lib.itoa_nonneg 0).trans (digits_small (by omega)), ?_⟩
    have k := (h.floor (by omega) (by omega)).2
    rw [h2] at k
    exact k.inj h
  · right
    rw [e, h1, fracT_int]
    exact ⟨(Go.Lib.itoa_nonneg 1).trans (digits_small (by omega)), sgn_lt.2 h2, sgn_lt.2 h3⟩
end Go.Proofs.YtpfanpkinlklnaaGreatDoor
/- The reference's Short, Signum, Sign, both and Parts. -/
namespace Go.Proofs.YtpfanpkinlklnaaGreatDoor
open Go.RowKit
open Go.Lib (decDigits itoa)

theorem head_of {s : Txt} (hne : s ≠ []) : ∃ c, (∀ k, (⟨s.toArray⟩ : ByteArray)[0]'k = c) ∧ ((c.toNat : Int) == 45) = negS s ∧ 0 < s.length := by
  obtain ⟨c, m, hcm⟩ := List.exists_cons_of_ne_nil hne
  exact ⟨c, fun _ => by subst hcm; rfl, head_neg hcm, by rw [hcm]; simp⟩
theorem Good.any {a : Txt} (h : fracE a = 0) : Good 60 a (fracQ a) := ⟨h, rfl, frac_fit h⟩
theorem neg_top {a : Txt} (h : fracE a = 0) : a ≠ [] ∧ negS a = negS (topS a) := by
  obtain ⟨h1, _⟩ := frac_parts h
  have hne : topS a ≠ [] := fun e => h1.1.2.1 (by rw [e]; rfl)
  by_cases hs : 47 ∈ a
  · have e := split_some hs
    generalize topS a = t at *
    obtain ⟨c, m, rfl⟩ := List.exists_cons_of_ne_nil hne
    rw [e]
    exact ⟨by simp, rfl⟩
  · obtain ⟨e, _⟩ := split_none hs
    rw [e] at hne ⊢
    exact ⟨hne, rfl⟩
theorem signum_eq {a : Txt} (h : fracE a = 0) : (fracQ a).num.sign = if negS a then -1 else if a = [48] then 0 else 1 := by
  obtain ⟨h1, _⟩ := frac_parts h
  obtain ⟨_, h2⟩ := neg_top h
  have h3 := (frac_num h).1
  have h4 := neg_int h1
  rw [← h2] at h4
  by_cases hn : negS a = true
  · rw [if_pos hn]
    rw [hn, decide_eq_true_eq] at h4
    rw [h3]
    exact Int.sign_eq_neg_one_of_neg h4
  · rw [if_neg hn]
    have h5 : negS a = false := by simpa using hn
    rw [h5, decide_eq_false_iff_not] at h4
    by_cases h0 : a = [48]
    · rw [if_pos h0, ((Good.any h).zero).1 h0]; rfl
    · rw [if_neg h0]
      refine Int.sign_eq_one_of_pos ?_
      have h6 : (fracQ a).num ≠ 0 := fun e => h0 ((Good.any h).zero.2 (Rat.num_eq_zero.1 e))
      omega

set_option maxHeartbeats 2000000 in
theorem rShort_any (s : Txt) (w : World) : Calls Tryz.prog 80 #[txt s] w fun e w' => e = .returned (.bool (decide (s.length ≤ 10))) ∧ w' = w := by
  have HB : Hid (decide ((s.length : Int) ≤ 10) = decide (s.length ≤ 10)) := by
    show _ = _
    exact decide_eq_decide.2 (by omega)
  go_enter Tryz.func80, Tryz.ntmps80
  go_wp2
  go_ret
  exact ⟨ret_bool HB.out, rfl⟩
set_option maxHeartbeats 2000000 in
theorem rSignum_any (a : Txt) (w : World) (hf : fracE a = 0) : Calls Tryz.prog 83 #[txt a] w fun e w' => e = .returned (.int .i64 (fracQ a).num.sign) ∧ w' = w := by
  have HS := Lib.hid (signum_eq hf)
  obtain ⟨c, hget, hc, hpos⟩ := head_of (neg_top hf).1
  have hi : (0 : Int) < (a.length : Int) := by omega
  rw [HS.out]
  clear HS hf
  by_cases hn : negS a = true
  · rw [if_pos hn]
    rw [hn] at hc
    clear hn
    go_enter Tryz.func83, Tryz.ntmps83
    go_wp2
    go_ret
    exact ⟨rfl, rfl⟩
  · rw [if_neg hn]
    have h5 : negS a = false := by simpa using hn
    rw [h5] at hc
    clear hn h5
    by_cases h0 : a = [48]
    · rw [if_pos h0]
      have hz : (a == [48]) = true := by rw [h0]; rfl
      clear h0
      go_enter Tryz.func83, Tryz.ntmps83
      go_wp2
      go_ret
      exact ⟨rfl, rfl⟩
    · rw [if_neg h0]
      have hz : (a == [48]) = false := by rw [beq_eq_false_iff_ne]; exact h0
      clear h0
      go_enter Tryz.func83, Tryz.ntmps83
      go_wp2
      go_ret
      exact ⟨rfl, rfl⟩
set_option maxHeartbeats 2000000 in
theorem rSign_any (a : Txt) (w : World) (hl : a.length ≤ 400) : Calls Tryz.prog 47 #[txt a] w (IntP (signS a).1 (signS a).2 w) := by
  have HC := Lib.hid (checkR_any a w hl)
  unfold IntP
  by_cases ea : fracE a = 0
  · have HR : Hid (signS a = ((fracQ a).num.sign, 0)) := by show _ = _; unfold signS ifOk; rw [if_pos ea]
    have HS := Lib.hid (fun W => rSignum_any a W ea)
    rw [ea] at HC
    rw [HR.out]
    clear ea HR
    go_enter Tryz.func47, Tryz.ntmps47
    go_wp2_with (first
      | (go_at_call 50; refine HC.out.mono ?_; rintro e w1 ⟨rfl, hE⟩)
      | (go_at_call 83; refine (HS.out _).mono ?_; rintro e w' ⟨rfl, rfl⟩))
    go_ret2
    exact ⟨rfl, hE⟩
  · have HR : Hid (signS a = (0, fracE a)) := by show _ = _; unfold signS ifOk; rw [if_neg ea]
    have hne : (((fracE a : Nat) : Int) != 0) = true := by rw [bne_iff_ne]; omega
    rw [HR.out]
    clear ea HR
    generalize fracE a = n at *
    go_enter Tryz.func47, Tryz.ntmps47
    go_wp2_with (go_at_call 50; refine HC.out.mono ?_; rintro e w1 ⟨rfl, hE⟩)
    go_ret2
    exact ⟨rfl, hE⟩
set_option maxHeartbeats 2000000 in
theorem rBoth_any (a b : Txt) (w : World) (ha : a.length ≤ 400) (hb : b.length ≤ 400) :
    Calls Tryz.prog 70 #[txt a, txt b] w fun e w' => e = .returned (.int .i64 (bothE a b : Nat)) ∧ Ext w w' := by
  have HC := Lib.hid (checkR_any a w ha)
  have HD := Lib.hid (fun W => checkR_any b W hb)
  unfold bothE
  by_cases ea : fracE a = 0
  · rw [if_pos ea]
    rw [ea] at HC
    clear ea
    go_enter Tryz.func70, Tryz.ntmps70
    go_wp2_with (first
      | (go_at_call 50; with_reducible refine HC.out.mono ?_; rintro e w1 ⟨rfl, hE⟩)
      | (go_at_call 50; with_reducible refine (HD.out _).mono ?_; rintro e w2 ⟨rfl, hE2⟩))
    go_ret
    exact ⟨rfl, hE.trans hE2⟩
  · rw [if_neg ea]
    have hne : (((fracE a : Nat) : Int) != 0) = true := by rw [bne_iff_ne]; omega
    clear ea
    generalize fracE a = n at *
    go_enter Tryz.func70, Tryz.ntmps70
    go_wp2_with (go_at_call 50; with_reducible refine HC.out.mono ?_; rintro e w1 ⟨rfl, hE⟩)
    go_ret
    exact ⟨rfl, hE⟩
/-- two texts and the number of an error are returned -/
def ParP (r : Txt × Txt × Nat) (w : World) (e : Ending) (w' : World) : Prop := e = .returned (.tuple #[txt r.1, txt r.2.1, .int .i64 (r.2.2 : Nat)]) ∧ Ext w w'
theorem parts_ok {a : Txt} (h : fracE a = 0) : partsR a = (topS a, lowS a, 0) := by unfold partsR ifOk; rw [if_pos h]
theorem parts_bad {a : Txt} (h : fracE a ≠ 0) : partsR a = ([], [], fracE a) := by unfold partsR ifOk; rw [if_neg h]
set_option maxHeartbeats 2000000 in
theorem rParts_any (a : Txt) (w : World) (hl : a.length ≤ 400) : Calls Tryz.prog 45 #[txt a] w (ParP (partsR a) w) := by
  have HC := Lib.hid (checkR_any a w hl)
  have HS := Lib.hid (fun W => splitR_any a W hl)
  unfold ParP
  by_cases ea : fracE a = 0
  · rw [parts_ok ea]
    rw [ea] at HC
    clear ea
    generalize topS a = n at *
    generalize lowS a = d at *
    go_enter Tryz.func45, Tryz.ntmps45
    go_wp2_with (first
      | (go_at_call 50; with_reducible refine HC.out.mono ?_; rintro e w1 ⟨rfl, hE0⟩)
      | ((go_at_call 82; (with_reducible refine (HS.out _).mono ?_); rintro e w1 ⟨rfl, hE⟩)))
    go_ret3
    exact ⟨rfl, hE0.trans hE⟩
  · rw [parts_bad ea]
    have hne : (((fracE a : Nat) : Int) != 0) = true := by rw [bne_iff_ne]; omega
    clear ea HS
    generalize fracE a = n at *
    go_enter Tryz.func45, Tryz.ntmps45
    go_wp2_with (go_at_call 50; with_reducible refine HC.out.mono ?_; rintro e w1 ⟨rfl, hE⟩)
    go_ret3
    exact ⟨rfl, hE⟩
end Go.Proofs.YtpfanpkinlklnaaGreatDoor
/- The program's Compare and Parts. -/
namespace Go.Proofs.YtpfanpkinlklnaaGreatDoor
open Go.RowKit
open Go.Lib (decDigits itoa)

theorem cmp_num2 {a b : Txt} (ea : fracE a = 0) (eb : fracE b = 0) : cmpS a b = (signN (sumN (numOf a) (negN (numOf b))), 0) := by
  obtain ⟨h1, h2⟩ := sumN_val (x := numOf a) (y := negN (numOf b)) (numOf_len ea).2 (numOf_len eb).2
  have h3 : valQ (sumN (numOf a) (negN (numOf b))) = fracQ a - fracQ b := by rw [h1, negN_val, numOf_val, numOf_val, Rat.sub_eq_add_neg]
  unfold cmpS ifOk
  rw [if_pos (bothE_zero ea eb), ← h3]
  unfold valQ signN
  rw [num_sign h2]
set_option maxHeartbeats 16000000 in
set_option maxRecDepth 100000 in
theorem compareF_any (a b : Txt) (w : World) (hG : Glob w) (ha : a.length ≤ 400) (hb : b.length ≤ 400) :
    Calls Tryz.prog 37 #[txt a, txt b] w (IntP (cmpS a b).1 (cmpS a b).2 w) := by
  have HPA := Lib.hid (fun W (hW : Ext w W) => parsed_any a W (hG.ext hW) ha)
  have HPB := Lib.hid (fun W (hW : Ext w W) => parsed_any b W (hG.ext hW) hb)
  clear hG
  unfold IntP
  go_enter Tryz.func37, Tryz.ntmps37
  go_wp2_with fail
  refine (HPA.out _ (Ext.refl _)).mono ?_
  rintro e w1 ⟨v1, rfl, ⟨s1, ta, tn, tc, ba, bn, bc, rfl⟩, hn1, hE⟩
  have HN1 := Lib.hid hn1
  clear hn1 HPA
  by_cases ea : fracE a = 0
  rotate_left
  · have HR : Hid (cmpS a b = (0, fracE a)) := by show _ = _; unfold cmpS ifOk; rw [bothE_left ea, if_neg ea]
    have hne : (((fracE a : Nat) : Int) != 0) = true := by rw [bne_iff_ne]; omega
    clear HN1 HPB
    generalize fracE a = n at *
    go_wp2_with fail
    go_ret2
    exact ⟨by rw [HR.out]; rfl, (by repeat (first | with_reducible exact Ext.refl _ | with_reducible assumption | with_reducible apply Ext.drewN | with_reducible apply Ext.drew | with_reducible apply Ext.alloc | ((with_reducible refine Ext.set ?_ ?_ _); rotate_left; first | omega | (simp; omega)) | (with_reducible refine Ext.trans ?_ (by with_reducible assumption))))⟩
  have HNA := Lib.hid (HN1.out ea)
  rw [ea]
  have HEA := Lib.hid ea
  clear ea HN1
  have hne0 : (((0 : Nat) : Int) != 0) = false := rfl
  have EV : Ext w1 (w1.alloc (.cells #[.bool s1, .slice ta tn tc, .slice ba bn bc] 72)) := (by repeat (first | with_reducible exact Ext.refl _ | with_reducible assumption | with_reducible apply Ext.drewN | with_reducible apply Ext.drew | with_reducible apply Ext.alloc | ((with_reducible refine Ext.set ?_ ?_ _); rotate_left; first | omega | (simp; omega)) | (with_reducible refine Ext.trans ?_ (by with_reducible assumption))))
  have X : Num3 w1.heap.size (w1.alloc (.cells #[.bool s1, .slice ta tn tc, .slice ba bn bc] 72)) (.bool s1) (.slice ta tn tc) (.slice ba bn bc) := ⟨by go_simp, by go_simp, by go_simp, by go_simp, by go_simp, by go_simp⟩
  have E := hE.trans EV
  replace HNA := Lib.hid (HNA.out.ext EV)
  clear EV hE
  go_wp2_with fail
  obtain ⟨xb, hxb⟩ : ∃ xb, xb = w1.heap.size := ⟨_, rfl⟩
  rw [← hxb] at X ⊢
  clear hxb
  generalize (w1.alloc (.cells #[.bool s1, .slice ta tn tc, .slice ba bn bc] 72)) = W1 at X E HNA ⊢
  refine (HPB.out _ E).mono ?_
  rintro e w3 ⟨v2, rfl, ⟨s2, ua, un, uc, va, vn, vc, rfl⟩, hn2, hE⟩
  replace X := X.ext hE
  replace E := E.trans hE
  replace HNA := Lib.hid (HNA.out.ext hE)
  have HN2 := Lib.hid hn2
  clear hn2 HPB hE
  by_cases eb : fracE b = 0
  rotate_left
  · have HR : Hid (cmpS a b = (0, fracE b)) := by show _ = _; unfold cmpS ifOk; rw [bothE_right HEA.out, if_neg eb]
    have hne : (((fracE b : Nat) : Int) != 0) = true := by rw [bne_iff_ne]; omega
    clear HN2 HEA
    generalize fracE b = n at *
    go_wp2_with fail
    go_ret2
    exact ⟨by rw [HR.out]; rfl, (by repeat (first | with_reducible exact Ext.refl _ | with_reducible assumption | with_reducible apply Ext.drewN | with_reducible apply Ext.drew | with_reducible apply Ext.alloc | ((with_reducible refine Ext.set ?_ ?_ _); rotate_left; first | omega | (simp; omega)) | (with_reducible refine Ext.trans ?_ (by with_reducible assumption))))⟩
  have HNB := Lib.hid (HN2.out eb)
  have HR := Lib.hid (cmp_num2 HEA.out eb)
  have hxa := (numOf_len HEA.out).1
  have hyb := (numOf_len eb).1
  rw [eb]
  clear eb HN2 HEA
  have EV : Ext w3 (w3.alloc (.cells #[.bool s2, .slice ua un uc, .slice va vn vc] 72)) := (by repeat (first | with_reducible exact Ext.refl _ | with_reducible assumption | with_reducible apply Ext.drewN | with_reducible apply Ext.drew | with_reducible apply Ext.alloc | ((with_reducible refine Ext.set ?_ ?_ _); rotate_left; first | omega | (simp; omega)) | (with_reducible refine Ext.trans ?_ (by with_reducible assumption))))
  have Y : Num3 w3.heap.size (w3.alloc (.cells #[.bool s2, .slice ua un uc, .slice va vn vc] 72)) (.bool s2) (.slice ua un uc) (.slice va vn vc) := ⟨by go_simp, by go_simp, by go_simp, by go_simp, by go_simp, by go_simp⟩
  replace X := X.ext EV
  replace E := E.trans EV
  replace HNA := Lib.hid (HNA.out.ext EV)
  replace HNB := Lib.hid (HNB.out.ext EV)
  clear EV
  generalize numOf a = NA at *
  generalize numOf b = NB at *
  go_wp2_with fail
  obtain ⟨yb, hyb2⟩ : ∃ yb, yb = w3.heap.size := ⟨_, rfl⟩
  rw [← hyb2] at Y ⊢
  clear hyb2
  generalize (w3.alloc (.cells #[.bool s2, .slice ua un uc, .slice va vn vc] 72)) = W3 at X Y E HNA HNB ⊢
  have hdr : Ext W3 W3.drew := (by repeat (first | with_reducible exact Ext.refl _ | with_reducible assumption | with_reducible apply Ext.drewN | with_reducible apply Ext.drew | with_reducible apply Ext.alloc | ((with_reducible refine Ext.set ?_ ?_ _); rotate_left; first | omega | (simp; omega)) | (with_reducible refine Ext.trans ?_ (by with_reducible assumption))))
  replace X := X.ext hdr
  replace Y := Y.ext hdr
  replace E := E.trans hdr
  replace HNA := Lib.hid (HNA.out.ext hdr)
  replace HNB := Lib.hid (HNB.out.ext hdr)
  have hS : W3.drew.cell? ⟨xb, 0, none⟩ = some (.bool s1) ∧ W3.drew.cell? ⟨xb, 1, none⟩ = some (.slice ta tn tc) ∧ W3.drew.cell? ⟨xb, 2, none⟩ = some (.slice ba bn bc) ∧ W3.drew.cell? ⟨yb, 0, none⟩ = some (.bool s2) ∧ W3.drew.cell? ⟨yb, 1, none⟩ = some (.slice ua un uc) ∧ W3.drew.cell? ⟨yb, 2, none⟩ = some (.slice va vn vc) := ⟨X.c0, X.c1, X.c2, Y.c0, Y.c1, Y.c2⟩
  refine wp_region_heldE 99 (fun w' => w'.cell? ⟨xb, 0, none⟩ = some (.bool s1) ∧ w'.cell? ⟨xb, 1, none⟩ = some (.slice ta tn tc) ∧ w'.cell? ⟨xb, 2, none⟩ = some (.slice ba bn bc) ∧ w'.cell? ⟨yb, 0, none⟩ = some (.bool s2) ∧ w'.cell? ⟨yb, 1, none⟩ = some (.slice ua un uc) ∧ w'.cell? ⟨yb, 2, none⟩ = some (.slice va vn vc)) (by kernel_rfl) ?_
  clear hdr X Y
  generalize W3.drew = W4 at E HNA HNB hS ⊢
  ((refine wpAnyE_take (i := 0) (oi := ?_) (v := ?_) ?_ (by kernel_rfl) ?_ ?_ (by assumption) ?_; rotate_left 2; (focus ((simp only [List.getElem?_toArray, List.getElem?_cons_zero]; exact rfl))); (focus (exact fun _ _ _ h => h)); (focus (refine Or.inl ⟨by rfl, ?_⟩; intro w hSw; (try dsimp only at hSw); (first | (go_simp; done) | (go_simp; with_reducible rfl)))); (try simp only [Act.put, List.setIfInBounds_toArray, List.set_cons_zero, List.set_cons_succ])); (refine wpAnyE_take (i := 1) (oi := ?_) (v := ?_) ?_ (by kernel_rfl) ?_ ?_ (by assumption) ?_; rotate_left 2; (focus ((simp only [List.getElem?_toArray, List.getElem?_cons_succ, List.getElem?_cons_zero]; exact rfl))); (focus (exact fun _ _ _ h => h)); (focus (refine Or.inl ⟨by rfl, ?_⟩; intro w hSw; (try dsimp only at hSw); (first | (go_simp; done) | (go_simp; with_reducible rfl)))); (try simp only [Act.put, List.setIfInBounds_toArray, List.set_cons_zero, List.set_cons_succ])))
  (refine wpAnyE_one (i := 2) (o := ?_) ?_ (by kernel_rfl) (fun K hK => ?_); rotate_left; (focus ((simp only [List.getElem?_toArray, List.getElem?_cons_succ, List.getElem?_cons_zero]; exact rfl))); go_simp; go_at_call 62; refine (opposite_any NB _ _ HNB.out).mono ?_; rintro e w5 ⟨v5, rfl, h5, hE⟩; go_wp2_with fail; refine hK.out _ _ ?_ (fun hHeld => ?_); rotate_left; clear hK K; (try simp only [Act.put, List.setIfInBounds_toArray, List.set_cons_zero, List.set_cons_succ]))
  rotate_left
  · exact ⟨hE.cell hS.1, hE.cell hS.2.1, hE.cell hS.2.2.1, hE.cell hS.2.2.2.1, hE.cell hS.2.2.2.2.1, hE.cell hS.2.2.2.2.2⟩
  have hS5 : w5.cell? ⟨xb, 0, none⟩ = some (.bool s1) ∧ w5.cell? ⟨xb, 1, none⟩ = some (.slice ta tn tc) ∧ w5.cell? ⟨xb, 2, none⟩ = some (.slice ba bn bc) ∧ w5.cell? ⟨yb, 0, none⟩ = some (.bool s2) ∧ w5.cell? ⟨yb, 1, none⟩ = some (.slice ua un uc) ∧ w5.cell? ⟨yb, 2, none⟩ = some (.slice va vn vc) := ⟨hE.cell hS.1, hE.cell hS.2.1, hE.cell hS.2.2.1, hE.cell hS.2.2.2.1, hE.cell hS.2.2.2.2.1, hE.cell hS.2.2.2.2.2⟩
  replace E := E.trans hE
  replace HNA := Lib.hid (HNA.out.ext hE)
  have HV5 := Lib.hid h5
  clear hS hE h5 hHeld HNB
  (refine wpAnyE_one (i := 3) (o := ?_) ?_ (by kernel_rfl) (fun K hK => ?_); rotate_left; (focus ((simp only [List.getElem?_toArray, List.getElem?_cons_succ, List.getElem?_cons_zero]; exact rfl))); go_simp; go_at_call 76; refine (sum_any NA (negN NB) _ v5 w5 HNA.out HV5.out hxa hyb).mono ?_; rintro e w6 ⟨v6, rfl, h6, _, hE⟩; go_wp2_with fail; refine hK.out _ _ ?_ (fun hHeld => ?_); rotate_left; clear hK K; (try simp only [Act.put, List.setIfInBounds_toArray, List.set_cons_zero, List.set_cons_succ]))
  rotate_left
  · exact ⟨hE.cell hS5.1, hE.cell hS5.2.1, hE.cell hS5.2.2.1, hE.cell hS5.2.2.2.1, hE.cell hS5.2.2.2.2.1, hE.cell hS5.2.2.2.2.2⟩
  have hS6 : w6.cell? ⟨xb, 0, none⟩ = some (.bool s1) ∧ w6.cell? ⟨xb, 1, none⟩ = some (.slice ta tn tc) ∧ w6.cell? ⟨xb, 2, none⟩ = some (.slice ba bn bc) ∧ w6.cell? ⟨yb, 0, none⟩ = some (.bool s2) ∧ w6.cell? ⟨yb, 1, none⟩ = some (.slice ua un uc) ∧ w6.cell? ⟨yb, 2, none⟩ = some (.slice va vn vc) := ⟨hE.cell hS5.1, hE.cell hS5.2.1, hE.cell hS5.2.2.1, hE.cell hS5.2.2.2.1, hE.cell hS5.2.2.2.2.1, hE.cell hS5.2.2.2.2.2⟩
  replace E := E.trans hE
  have HV6 := Lib.hid h6
  clear hS5 hE h6 hHeld HNA HV5
  generalize sumN NA (negN NB) = SN at *
  (refine wpAnyE_one (i := 4) (o := ?_) ?_ (by kernel_rfl) (fun K hK => ?_); rotate_left; (focus ((simp only [List.getElem?_toArray, List.getElem?_cons_succ, List.getElem?_cons_zero]; exact rfl))); go_simp; go_at_call 75; refine (sign_any SN v6 w6 HV6.out).mono ?_; rintro e w7 ⟨rfl, hE⟩; go_wp2_with fail; refine hK.out _ _ ?_ (fun hHeld => ?_); rotate_left; clear hK K; (try simp only [Act.put, List.setIfInBounds_toArray, List.set_cons_zero, List.set_cons_succ]))
  rotate_left
  · exact ⟨hE.cell hS6.1, hE.cell hS6.2.1, hE.cell hS6.2.2.1, hE.cell hS6.2.2.2.1, hE.cell hS6.2.2.2.2.1, hE.cell hS6.2.2.2.2.2⟩
  have hS7 : w7.cell? ⟨xb, 0, none⟩ = some (.bool s1) ∧ w7.cell? ⟨xb, 1, none⟩ = some (.slice ta tn tc) ∧ w7.cell? ⟨xb, 2, none⟩ = some (.slice ba bn bc) ∧ w7.cell? ⟨yb, 0, none⟩ = some (.bool s2) ∧ w7.cell? ⟨yb, 1, none⟩ = some (.slice ua un uc) ∧ w7.cell? ⟨yb, 2, none⟩ = some (.slice va vn vc) := ⟨hE.cell hS6.1, hE.cell hS6.2.1, hE.cell hS6.2.2.1, hE.cell hS6.2.2.2.1, hE.cell hS6.2.2.2.2.1, hE.cell hS6.2.2.2.2.2⟩
  replace E := E.trans hE
  clear hS6 hE hHeld
  ((refine wpAnyE_pure (i := 5) (oi := ?_) (v := ?_) ?_ (by kernel_rfl) ?_ ?_ ?_ ?_; rotate_left 2; (focus ((simp only [List.getElem?_toArray, List.getElem?_cons_succ, List.getElem?_cons_zero]; exact rfl))); (focus (exact fun _ _ _ h => h)); (focus (refine Or.inl ⟨by rfl, ?_⟩; intro w hSw; clear hSw; (first | (go_simp; done) | (go_simp; with_reducible rfl)))); (focus (first | exact (fun _ => by assumption) | (intro hlst; exact absurd hlst (by kernel_rfl)) | (intro hlst; cases hlst))); (try simp only [Act.put, List.setIfInBounds_toArray, List.set_cons_zero, List.set_cons_succ])); (refine wpAnyE_pure (i := 6) (oi := ?_) (v := ?_) ?_ (by kernel_rfl) ?_ ?_ ?_ ?_; rotate_left 2; (focus ((simp only [List.getElem?_toArray, List.getElem?_cons_succ, List.getElem?_cons_zero]; exact rfl))); (focus (exact fun _ _ _ h => h)); (focus (refine Or.inl ⟨by rfl, ?_⟩; intro w hSw; clear hSw; (first | (go_simp; done) | (go_simp; with_reducible rfl)))); (focus (first | exact (fun _ => by assumption) | (intro hlst; exact absurd hlst (by kernel_rfl)) | (intro hlst; cases hlst))); (try simp only [Act.put, List.setIfInBounds_toArray, List.set_cons_zero, List.set_cons_succ])))
  clear hS7
  refine wpAnyE_done (by kernel_rfl) ?_ _
  go_wp2_with fail
  go_ret2
  exact ⟨by rw [HR.out]; rfl, E⟩
end Go.Proofs.YtpfanpkinlklnaaGreatDoor
/- The program's Parts. -/
namespace Go.Proofs.YtpfanpkinlklnaaGreatDoor
open Go.RowKit
open Go.Lib (decDigits itoa)

set_option maxHeartbeats 4000000 in
set_option maxRecDepth 100000 in
theorem partsF_any (a : Txt) (w : World) (hG : Glob w) (ha : a.length ≤ 400) : Calls Tryz.prog 40 #[txt a] w (ParP (partsR a) w) := by
  have HC := Lib.hid (check_any a w hG ha)
  have HCut := Lib.hid (fun W (hW : Ext w W) => Cut_any a W (hG.ext hW) (by omega))
  clear hG
  unfold ParP
  by_cases ea : fracE a = 0
  · rw [parts_ok ea]
    rw [ea] at HC
    clear ea
    have hne0 : (((0 : Nat) : Int) != 0) = false := rfl
    by_cases hs : 47 ∈ a
    · rw [if_pos hs, decide_eq_true hs] at HCut
      clear hs
      generalize topS a = n at *
      generalize lowS a = d at *
      go_enter Tryz.func40, Tryz.ntmps40
      go_wp2_with (first
        | (go_at_call 44; with_reducible refine HC.out.mono ?_; rintro e w1 ⟨rfl, hE⟩)
        | (go_at_call 81; with_reducible refine (HCut.out _ hE).mono ?_; rintro e w2 ⟨rfl, hE2⟩))
      go_ret3
      exact ⟨rfl, hE.trans hE2⟩
    · rw [if_neg hs, decide_eq_false hs] at HCut
      rw [(split_none hs).2]
      clear hs
      generalize topS a = n at *
      go_enter Tryz.func40, Tryz.ntmps40
      go_wp2_with (first
        | (go_at_call 44; with_reducible refine HC.out.mono ?_; rintro e w1 ⟨rfl, hE⟩)
        | (go_at_call 81; with_reducible refine (HCut.out _ hE).mono ?_; rintro e w2 ⟨rfl, hE2⟩))
      go_ret3
      exact ⟨rfl, hE.trans hE2⟩
  · rw [parts_bad ea]
    have hne : (((fracE a : Nat) : Int) != 0) = true := by rw [bne_iff_ne]; omega
    clear ea HCut
    generalize fracE a = n at *
    go_enter Tryz.func40, Tryz.ntmps40
    go_wp2_with (go_at_call 44; with_reducible refine HC.out.mono ?_; rintro e w1 ⟨rfl, hE⟩)
    go_ret3
    exact ⟨rfl, hE⟩
end Go.Proofs.YtpfanpkinlklnaaGreatDoor
/- The law's functions right and FractionParts. -/
namespace Go.Proofs.YtpfanpkinlklnaaGreatDoor
open Go.RowKit
open Go.Lib (decDigits itoa)

/-- short and right -/
def okS (x : Txt) : Bool := decide (x.length ≤ 10) && decide (fracE x = 0)
theorem okS_iff {x : Txt} : okS x = true ↔ x.length ≤ 10 ∧ fracE x = 0 := by unfold okS; simp
set_option maxHeartbeats 2000000 in
theorem right1_any (x : Txt) (w : World) : Calls Tryz.prog 79 #[txt x] w fun e w' => e = .returned (.bool (!okS x)) ∧ Ext w w' := by
  have HS := Lib.hid (rShort_any x w)
  by_cases h1 : x.length ≤ 10
  · have HC := Lib.hid (checkR_any x w (by omega))
    rw [decide_eq_true h1] at HS
    by_cases h2 : fracE x = 0
    · have HR : Hid ((!okS x) = false) := by show _ = _; rw [okS_iff.2 ⟨h1, h2⟩]; rfl
      rw [h2] at HC
      rw [HR.out]
      clear h1 h2 HR
      go_enter Tryz.func79, Tryz.ntmps79
      go_wp2_with (first
        | (go_at_call 80; with_reducible refine HS.out.mono ?_; rintro e w' ⟨rfl, rfl⟩)
        | (go_at_call 50; with_reducible refine HC.out.mono ?_; rintro e w1 ⟨rfl, hE⟩))
      go_ret
      exact ⟨rfl, hE⟩
    · have HR : Hid ((!okS x) = true) := by show _ = _; unfold okS; simp [h2]
      have hne : (((fracE x : Nat) : Int) != 0) = true := by rw [bne_iff_ne]; omega
      rw [HR.out]
      clear h1 h2 HR
      generalize fracE x = n at *
      go_enter Tryz.func79, Tryz.ntmps79
      go_wp2_with (first
        | (go_at_call 80; with_reducible refine HS.out.mono ?_; rintro e w' ⟨rfl, rfl⟩)
        | (go_at_call 50; with_reducible refine HC.out.mono ?_; rintro e w1 ⟨rfl, hE⟩))
      go_ret
      exact ⟨rfl, hE⟩
  · have HR : Hid ((!okS x) = true) := by show _ = _; unfold okS; simp [h1]
    rw [decide_eq_false h1] at HS
    rw [HR.out]
    clear h1 HR
    go_enter Tryz.func79, Tryz.ntmps79
    go_wp2_with (go_at_call 80; with_reducible refine HS.out.mono ?_; rintro e w' ⟨rfl, rfl⟩)
    go_ret
    exact ⟨rfl, Ext.refl _⟩
/-- where the first wrong text stands -/
def IdxP (l : List Txt) (w : World) (e : Ending) (w' : World) : Prop := ∃ z : Int, e = .returned (.int .i64 z) ∧ Ext w w' ∧ decide (0 ≤ z) = !(l.all okS)
theorem all_drop {l : List Txt} {k : Nat} (h : k < l.length) : (l.drop k).all okS = (okS (l.getD k []) && (l.drop (k + 1)).all okS) := by
  rw [drop_txt h, List.all_cons]
set_option maxHeartbeats 4000000 in
set_option maxRecDepth 100000 in
theorem index_any (l : List Txt) (a : Option Addr) (cap : Nat) (w : World) (hc : CellsT w a l) (hm : l.length ≤ 1000) :
    Calls Tryz.prog 109 #[.slice a l.length cap, .func (.func 79) #[] #[]] w (IdxP l w) := by
  have HC := Lib.hid hc
  have HF := Lib.hid (fun s W => right1_any s W)
  clear hc
  go_enter Tryz.func109, Tryz.ntmps109
  go_wp2
  go_loopw [8] (fun i wr => ∃ k : Nat, k ≤ l.length ∧ i = .int .i64 k ∧ Hid (l.all okS = (l.drop k).all okS) ∧ Ext w wr) (fun i _ => l.length - (intOf i).toNat)
  case atStart => exact ⟨0, by omega, rfl, rfl, Ext.refl _⟩
  case round =>
    obtain ⟨k, hk, rfl, HK, he⟩ := hrel
    by_cases hlt : k < l.length
    · have hki : (k : Int) < (l.length : Int) := by omega
      obtain ⟨b, off, ha, hcell⟩ := HC.out.ext he k hlt
      subst ha
      have HFX := Lib.hid (HF.out (l.getD k []))
      have hst := all_drop hlt
      by_cases hx : okS (l.getD k []) = true
      · have HK2 : Hid (l.all okS = (l.drop (k + 1)).all okS) := by show _ = _; rw [HK.out, hst, hx]; rfl
        rw [hx] at HFX
        generalize l.getD k [] = x at hcell HFX
        clear hx HK hst
        go_wp2_with (go_at_call 79; with_reducible refine (HFX.out _).mono ?_; rintro e w1 ⟨rfl, hE⟩)
        refine ⟨⟨k + 1, by omega, by go_num, HK2, he.trans hE⟩, by simp [intOf]; omega⟩
      · have hx2 : okS (l.getD k []) = false := by simpa using hx
        have HR : Hid (decide ((0 : Int) ≤ (k : Int)) = !(l.all okS)) := by
          show _ = _
          rw [HK.out, hst, hx2, decide_eq_true (by omega)]; rfl
        rw [hx2] at HFX
        generalize l.getD k [] = x at hcell HFX
        clear hx hx2 HK hst
        go_wp2_with (go_at_call 79; with_reducible refine (HFX.out _).mono ?_; rintro e w1 ⟨rfl, hE⟩)
        go_ret
        exact ⟨k, rfl, he.trans hE, HR.out⟩
    · have hki : ¬ (k : Int) < (l.length : Int) := by omega
      have HR : Hid (decide ((0 : Int) ≤ -1) = !(l.all okS)) := by
        show _ = _
        rw [HK.out, List.drop_eq_nil_of_le (by omega)]; rfl
      clear HK
      go_wp2
      go_ret
      exact ⟨-1, rfl, he, HR.out⟩
set_option maxHeartbeats 2000000 in
theorem contains_any (l : List Txt) (a : Option Addr) (cap : Nat) (w : World) (hc : CellsT w a l) (hm : l.length ≤ 1000) :
    Calls Tryz.prog 78 #[.slice a l.length cap, .func (.func 79) #[] #[]] w fun e w' => e = .returned (.bool (!(l.all okS))) ∧ Ext w w' := by
  have HI := Lib.hid (index_any l a cap w hc hm)
  clear hc
  unfold IdxP at HI
  generalize l.all okS = B at *
  go_enter Tryz.func78, Tryz.ntmps78
  go_wp2_with (go_at_call 109; refine HI.out.mono ?_; rintro e w1 ⟨z, rfl, hE, hz⟩)
  go_ret
  exact ⟨rfl, hE⟩
set_option maxHeartbeats 2000000 in
theorem rightF_any (l : List Txt) (a : Option Addr) (cap : Nat) (w : World) (hc : CellsT w a l) (hm : l.length ≤ 1000) :
    Calls Tryz.prog 39 #[.slice a l.length cap] w fun e w' => e = .returned (.bool (l.all okS)) ∧ Ext w w' := by
  have HI := Lib.hid (contains_any l a cap w hc hm)
  clear hc
  generalize l.all okS = B at *
  go_enter Tryz.func39, Tryz.ntmps39
  go_wp2_with (go_at_call 78; refine HI.out.mono ?_; rintro e w1 ⟨rfl, hE⟩)
  go_ret
  exact ⟨ret_bool (by simp), hE⟩

/-! ### A fraction is made again from its parts -/
theorem make_ints {m n : Int} (hm : m.natAbs < 10 ^ 60) (hn : n.natAbs < 10 ^ 60) (h0 : n ≠ 0) : makeR (itoa m) (itoa n) = resQ ((m : Rat) / (n : Rat)) := by
  obtain ⟨_, k2⟩ := int_of m
  obtain ⟨k3, k4⟩ := int_of n
  unfold makeR ifOk
  rw [if_pos (intE_of hm), if_pos (intE_of hn), if_neg (fun e => h0 (by rw [← k4]; exact (int_zero k3).1 e)), k2, k4]
theorem parts_law {a : Txt} {k : Int} (h : fracE a = 0) (hl : a.length ≤ 10) (hk : k ≠ 0) (h1 : -32768 ≤ k) (h2 : k ≤ 32767) :
    makeR (topS a) (lowS a) = (a, 0) ∧ divS (topS a) (lowS a) = (a, 0) ∧
    ∃ x y : Txt, mulS (topS a) (itoa k) = (x, 0) ∧ mulS (lowS a) (itoa k) = (y, 0) ∧ makeR x y = (a, 0) ∧ x.length ≤ 400 ∧ y.length ≤ 400 := by
  obtain ⟨i1, _, i3, i4, _⟩ := frac_parts h
  obtain ⟨n1, n2⟩ := frac_num h
  have hf := short_fit h hl
  obtain ⟨M, hM⟩ : ∃ M, M = intV (topS a) := ⟨_, rfl⟩
  obtain ⟨N, hN⟩ : ∃ N, N = decV (lowS a) := ⟨_, rfl⟩
  have et : topS a = itoa M := by rw [hM, int_back i1]
  have el : lowS a = itoa (N : Int) := by rw [Go.Lib.itoa_nonneg, hN, canon_back i3]
  rw [← hM] at n1
  rw [← hN] at n2 i4
  have hMb : M.natAbs < 10 ^ 10 := by rw [← n1]; exact hf.1
  have hNb : (N : Int).natAbs < 10 ^ 10 := by rw [Int.natAbs_natCast, ← n2]; exact hf.2
  have hkb : k.natAbs < 10 ^ 5 := by omega
  have gM := int_good (n := M) (K := 10) (by omega) (by omega) hMb
  have gN := int_good (n := (N : Int)) (K := 10) (by omega) (by omega) hNb
  have gk := int_good (n := k) (K := 5) (by omega) (by omega) hkb
  have hN0 : (N : Int) ≠ 0 := by omega
  have hNr : ((N : Int) : Rat) ≠ 0 := fun e => hN0 (Rat.intCast_eq_zero_iff.1 e)
  have hkr : (k : Rat) ≠ 0 := fun e => hk (Rat.intCast_eq_zero_iff.1 e)
  have hq : (M : Rat) / ((N : Int) : Rat) = fracQ a := by
    show _ = mkRat (intV (topS a)) (decV (lowS a))
    rw [← hM, ← hN, Rat.mkRat_eq_div]
    rfl
  have p60 : (10 : Nat) ^ 10 ≤ 10 ^ 60 := Nat.pow_le_pow_right (by omega) (by omega)
  have p15 : (10 : Nat) ^ (10 + 5) ≤ 10 ^ 60 := Nat.pow_le_pow_right (by omega) (by omega)
  have eM : (M : Rat) * (k : Rat) = ((M * k : Int) : Rat) := (Rat.intCast_mul _ _).symm
  have eN : ((N : Int) : Rat) * (k : Rat) = (((N : Int) * k : Int) : Rat) := (Rat.intCast_mul _ _).symm
  have mM := gM.mul gk (by omega)
  have mN := gN.mul gk (by omega)
  rw [eM, fracT_int] at mM
  rw [eN, fracT_int] at mN
  have hMk : (M * k).natAbs < 10 ^ 60 := by rw [Int.natAbs_mul]; exact Nat.lt_of_lt_of_le (pow_mul_lt hMb hkb) p15
  have hNk : ((N : Int) * k).natAbs < 10 ^ 60 := by rw [Int.natAbs_mul]; exact Nat.lt_of_lt_of_le (pow_mul_lt hNb hkb) p15
  have hNk0 : (N : Int) * k ≠ 0 := Int.mul_ne_zero hN0 hk
  have hr : ((M * k : Int) : Rat) / (((N : Int) * k : Int) : Rat) = fracQ a := by
    rw [← eM, ← eN, ← hq]
    have e1 : (M : Rat) = (M : Rat) / ((N : Int) : Rat) * ((N : Int) : Rat) := (Rat.div_mul_cancel hNr).symm
    have e2 : (M : Rat) * (k : Rat) = (M : Rat) / ((N : Int) : Rat) * (((N : Int) : Rat) * (k : Rat)) := by
      conv => lhs; rw [e1]
      rw [Rat.mul_assoc]
    rw [e2, Rat.mul_div_cancel]
    exact fun e => (Rat.mul_eq_zero.1 e).elim hNr hkr
  have ea := made_is h rfl
  rw [et, el]
  refine ⟨?_, ?_, itoa (M * k), itoa ((N : Int) * k), mM.1, mN.1, ?_, Nat.le_trans (frac_len mM.2.ok) (by omega), Nat.le_trans (frac_len mN.2.ok) (by omega)⟩
  · rw [make_ints (Nat.lt_of_lt_of_le hMb p60) (Nat.lt_of_lt_of_le hNb p60) hN0, hq, ea]
  · rw [(gM.div gN (by omega) hNr).1, hq, frac_back h]
  · rw [make_ints hMk hNk hNk0, hr, ea]
end Go.Proofs.YtpfanpkinlklnaaGreatDoor
/- The law's function FractionParts. -/
namespace Go.Proofs.YtpfanpkinlklnaaGreatDoor
open Go.RowKit
open Go.Lib (decDigits itoa)

theorem cell_new (w : World) (arr : Array Value) (t : TypeId) (i : Nat) (v : Value) (h : arr[i]? = some v) : (w.alloc (.cells arr t)).cell? ⟨w.heap.size, 0 + i, none⟩ = some v := by
  have hh : (w.alloc (.cells arr t)).heap[w.heap.size]? = some (.cells arr t) := by show (w.heap.push _)[w.heap.size]? = _; rw [Array.getElem?_push, if_pos rfl]
  have hi : i < arr.size := by
    rcases Nat.lt_or_ge i arr.size with k | k
    · exact k
    · rw [Array.getElem?_eq_none k] at h; cases h
  simp only [World.cell?, hh, Nat.zero_add]
  first | exact h | (rw [h]; rfl)
theorem cells_txts (w : World) (l : List Txt) (t : TypeId) : CellsT (w.alloc (.cells (l.map txt).toArray t)) (some ⟨w.heap.size, 0, none⟩) l := fun i hi => by
  refine ⟨w.heap.size, 0, rfl, cell_new w _ t i _ ?_⟩
  rw [getD_txt hi, List.getElem?_toArray, List.getElem?_map, List.getElem?_eq_getElem hi]
  rfl
theorem low_len {a : Txt} (h : a.length ≤ 390) : (topS a).length ≤ 400 ∧ (lowS a).length ≤ 400 := by
  constructor
  · exact Nat.le_trans (List.takeWhile_prefix _).length_le (by omega)
  · unfold lowS
    split
    · rw [List.length_tail]
      have := (List.dropWhile_suffix (l := a) (· != 47)).length_le
      omega
    · simp
set_option maxHeartbeats 8000000 in
set_option maxRecDepth 100000 in
theorem lawParts_any (a : Txt) (k : Int) (w : World) (hG : Glob w) (h1 : -32768 ≤ k) (h2 : k ≤ 32767) :
    Calls Tryz.prog 8 #[txt a, .int .i16 k] w (TrueP w) := by
  have HG := Lib.hid hG
  have HA : Hid (∀ W, Ext w W → Calls Tryz.prog 13 #[] W fun e w' => e = .returned (.bool true) ∧ Ext W w') := fun W h => awake_any W (HG.out.ext h)
  have HR := Lib.hid (rightF_any [a] (some ⟨w.heap.size, 0, none⟩) 1 _ (cells_txts w [a] 23) (by simp))
  have E1 : Ext w (w.alloc (.cells #[txt a] 23)) := (by repeat (first | with_reducible exact Ext.refl _ | with_reducible assumption | with_reducible apply Ext.drewN | with_reducible apply Ext.drew | with_reducible apply Ext.alloc | ((with_reducible refine Ext.set ?_ ?_ _); rotate_left; first | omega | (simp; omega)) | (with_reducible refine Ext.trans ?_ (by with_reducible assumption))))
  have hall : [a].all okS = okS a := by simp
  rw [hall] at HR
  clear hG hall
  unfold TrueP
  by_cases hok : okS a = true
  rotate_left
  · have hok2 : okS a = false := by simpa using hok
    rw [hok2] at HR
    clear hok hok2
    go_enter Tryz.func8, Tryz.ntmps8
    go_wp2_with fail
    refine HR.out.mono ?_
    rintro e w1 ⟨rfl, h⟩
    have E := E1.trans h
    go_wp2_with (go_at_call 13; refine (HA.out _ E).mono ?_; rintro e w3 ⟨rfl, h3⟩)
    go_ret
    exact ⟨rfl, E.trans h3⟩
  rw [hok] at HR
  by_cases hk : k = 0
  · have hkb : (k == 0) = true := by rw [hk]; rfl
    clear hok hk
    go_enter Tryz.func8, Tryz.ntmps8
    go_wp2_with fail
    refine HR.out.mono ?_
    rintro e w1 ⟨rfl, h⟩
    have E := E1.trans h
    go_wp2_with (go_at_call 13; refine (HA.out _ E).mono ?_; rintro e w3 ⟨rfl, h3⟩)
    go_ret
    exact ⟨rfl, E.trans h3⟩
  have hkb : (k == 0) = false := by rw [beq_eq_false_iff_ne]; exact hk
  have hwk : IntKind.i64.wrap k = k := by rw [IntKind.wrap_i64]; omega
  obtain ⟨hl, hf⟩ := okS_iff.1 hok
  obtain ⟨p1, p2, x, y, p3, p4, p5, hxl, hyl⟩ := parts_law hf hl hk h1 h2
  obtain ⟨ht, hlw⟩ := low_len (a := a) (by omega)
  have HP : Hid (∀ W, Ext w W → Calls Tryz.prog 40 #[txt a] W (ParP (topS a, lowS a, 0) W)) := fun W h => by rw [← parts_ok hf]; exact partsF_any a W (HG.out.ext h) (by omega)
  have HM1 : Hid (∀ W, Ext w W → Calls Tryz.prog 14 #[txt (topS a), txt (lowS a)] W (ResP (a, 0) W)) := fun W h => by rw [← p1]; exact make_any _ _ W (HG.out.ext h) ht hlw
  have HW : Hid (∀ W, Ext w W → Calls Tryz.prog 18 #[.int .i64 k] W fun e w' => e = .returned (txt (itoa k)) ∧ Ext W w') := fun W h => whole_any k W (HG.out.ext h) (by omega) (by omega)
  have hkl : (itoa k).length ≤ 400 := by
    have := itoa_len (n := k) (by omega) (by omega)
    omega
  have HX : Hid (∀ W, Ext w W → Calls Tryz.prog 33 #[txt (topS a), txt (itoa k)] W (ResP (x, 0) W)) := fun W h => by rw [← p3]; exact mul_any _ _ W (HG.out.ext h) ht hkl
  have HY : Hid (∀ W, Ext w W → Calls Tryz.prog 33 #[txt (lowS a), txt (itoa k)] W (ResP (y, 0) W)) := fun W h => by rw [← p4]; exact mul_any _ _ W (HG.out.ext h) hlw hkl
  have HM2 : Hid (∀ W, Ext w W → Calls Tryz.prog 14 #[txt x, txt y] W (ResP (a, 0) W)) := fun W h => by rw [← p5]; exact make_any _ _ W (HG.out.ext h) hxl hyl
  have HD : Hid (∀ W, Ext w W → Calls Tryz.prog 35 #[txt (topS a), txt (lowS a)] W (ResP (a, 0) W)) := fun W h => by rw [← p2]; exact div_any _ _ W (HG.out.ext h) ht hlw
  unfold ParP at HP
  unfold ResP at HM1 HX HY HM2 HD
  clear p1 p2 p3 p4 p5 hxl hyl ht hlw hkl hok hl hf hk
  generalize topS a = m at *
  generalize lowS a = n at *
  generalize itoa k = t at *
  have hb := beq_self a
  go_enter Tryz.func8, Tryz.ntmps8
  go_wp2_with fail
  refine HR.out.mono ?_
  rintro e w1 ⟨rfl, h⟩
  have E := E1.trans h
  clear h E1
  go_wp2_with (go_at_call 40; refine (HP.out _ E).mono ?_; rintro e w2 ⟨rfl, h⟩)
  replace E := E.trans h
  clear h
  go_wp2_with (go_at_call 14; refine (HM1.out _ E).mono ?_; rintro e w3 ⟨rfl, h⟩)
  replace E := E.trans h
  clear h
  go_wp2_with (go_at_call 18; refine (HW.out _ E).mono ?_; rintro e w4 ⟨rfl, h⟩)
  replace E := E.trans h
  clear h
  go_wp2_with (go_at_call 33; refine (HX.out _ E).mono ?_; rintro e w5 ⟨rfl, h⟩)
  replace E := E.trans h
  clear h
  go_wp2_with (go_at_call 18; refine (HW.out _ E).mono ?_; rintro e w6 ⟨rfl, h⟩)
  replace E := E.trans h
  clear h
  go_wp2_with (go_at_call 33; refine (HY.out _ E).mono ?_; rintro e w7 ⟨rfl, h⟩)
  replace E := E.trans h
  clear h
  go_wp2_with (go_at_call 14; refine (HM2.out _ E).mono ?_; rintro e w8 ⟨rfl, h⟩)
  replace E := E.trans h
  clear h
  go_wp2_with (go_at_call 35; refine (HD.out _ E).mono ?_; rintro e w9 ⟨rfl, h⟩)
  replace E := E.trans h
  clear h
  go_wp2_with (go_at_call 13; refine (HA.out _ E).mono ?_; rintro e w10 ⟨rfl, h⟩)
  replace E := E.trans h
  go_wp2
  go_ret
  exact ⟨rfl, E⟩
end Go.Proofs.YtpfanpkinlklnaaGreatDoor
/- The program's Sum. (Printed from XFSums by gensumf.py.) -/
namespace Go.Proofs.YtpfanpkinlklnaaGreatDoor
open Go.RowKit
open Go.Lib (decDigits itoa)

set_option maxHeartbeats 4000000 in
set_option maxRecDepth 100000 in
theorem sumF_any (l : List Txt) (a : Option Addr) (cap : Nat) (w : World) (hGl : Glob w) (hc : CellsT w a l) (hm : l.length ≤ 9223372036854775807) (hF : FewL l) :
    Calls Tryz.prog 27 #[.slice a l.length cap] w (ResP (sumR l) w) := by
  unfold ResP
  by_cases hmany : 4096 < l.length
  · rw [sum_many hmany]
    have hi : (4096 : Int) < (l.length : Int) := by omega
    clear hc hF hGl
    go_enter Tryz.func27, Tryz.ntmps27
    go_wp2
    go_ret2
    exact ⟨rfl, (by repeat (first | with_reducible exact Ext.refl _ | with_reducible assumption | with_reducible apply Ext.drewN | with_reducible apply Ext.drew | with_reducible apply Ext.alloc | ((with_reducible refine Ext.set ?_ ?_ _); rotate_left; first | omega | (simp; omega)) | (with_reducible refine Ext.trans ?_ (by with_reducible assumption))))⟩
  have hl8 : l.length ≤ 8 ∧ ∀ x ∈ l, x.length ≤ 180 := hF.elim id (fun h => absurd h hmany)
  have HC := Lib.hid hc
  have HK := Lib.hid (fun k (hk : k < l.length) W (hW : Ext w W) => check_any (l.getD k []) W (hGl.ext hW) (by have := hl8.2 _ (mem_txt hk); omega))
  have HA := Lib.hid (fun o k (hk : k < l.length) (ho : o.length ≤ 400) W (hW : Ext w W) => add_any o (l.getD k []) W (hGl.ext hW) ho (by have := hl8.2 _ (mem_txt hk); omega))
  have hi : ¬ (4096 : Int) < (l.length : Int) := by omega
  have HB := Lib.hid (fun h => sum_first hmany (l := l) h)
  have HG := Lib.hid (fun h => sum_all hmany (l := l) h)
  obtain ⟨h8, _⟩ := hl8
  clear hc hF hmany hGl
  unfold ResP at HA
  obtain ⟨S, hS⟩ : ∃ S, S = sumR l := ⟨_, rfl⟩
  rw [← hS] at HB HG ⊢
  clear hS
  go_enter Tryz.func27, Tryz.ntmps27
  go_wp2
  go_loopw [16] (fun i wr => ∃ k : Nat, k ≤ l.length ∧ i = .int .i64 k ∧ Hid (firstE l = firstE (l.drop k)) ∧ Ext w wr) (fun i _ => l.length - (intOf i).toNat)
  case atStart => exact ⟨0, by omega, rfl, rfl, Ext.refl _⟩
  case round =>
    obtain ⟨k, hk, rfl, HE, he⟩ := hrel
    by_cases hlt : k < l.length
    · have hki : (k : Int) < (l.length : Int) := by omega
      obtain ⟨b, off, ha, hcell⟩ := HC.out.ext he k hlt
      subst ha
      have HKX := Lib.hid (HK.out k hlt)
      have hst := firstE_drop hlt
      by_cases hx : fracE (l.getD k []) = 0
      · have HE2 : Hid (firstE l = firstE (l.drop (k + 1))) := by show _ = _; rw [HE.out, hst, if_pos hx]
        rw [hx] at HKX
        generalize l.getD k [] = x at hcell HKX
        clear hx HE hst
        go_wp2_with (go_at_call 44; with_reducible refine (HKX.out _ he).mono ?_; rintro e w1 ⟨rfl, hE⟩)
        refine ⟨⟨k + 1, by omega, by go_num, HE2, he.trans hE⟩, by simp [intOf]; omega⟩
      · have hfe : firstE l = fracE (l.getD k []) := by rw [HE.out, hst, if_neg hx]
        have hR := HB.out (by rw [hfe]; exact hx)
        rw [hfe] at hR
        have HR := Lib.hid hR
        have hne : (((fracE (l.getD k []) : Nat) : Int) != 0) = true := by rw [bne_iff_ne]; omega
        clear hx HE hst hfe hR
        generalize fracE (l.getD k []) = n at *
        generalize l.getD k [] = x at hcell HKX
        go_wp2_with (go_at_call 44; with_reducible refine (HKX.out _ he).mono ?_; rintro e w1 ⟨rfl, hE⟩)
        go_ret2
        exact ⟨by rw [HR.out]; rfl, he.trans hE⟩
    · have hki : ¬ (k : Int) < (l.length : Int) := by omega
      have hkl : k = l.length := by omega
      have h0 : firstE l = 0 := by rw [HE.out, hkl, List.drop_eq_nil_of_le (Nat.le_refl _)]; rfl
      have HS := Lib.hid (HG.out h0)
      clear hlt hkl h0 HE HB HG HK
      go_wp2
      go_loopw [7, 28] (fun o i wr => ∃ (k : Nat) (t : Txt), k ≤ l.length ∧ o = txt t ∧ i = .int .i64 k ∧ t.length ≤ 400 ∧ Hid (S = addAll (t, 0) (l.drop k)) ∧ Ext w wr) (fun _ i _ => l.length - (intOf i).toNat)
      case atStart => exact ⟨0, [48], by omega, rfl, rfl, by simp, HS.out, he⟩
      case round =>
        obtain ⟨k, t, hk, rfl, rfl, ht, HT, he⟩ := hrel
        by_cases hlt : k < l.length
        · have hki : (k : Int) < (l.length : Int) := by omega
          obtain ⟨b, off, ha, hcell⟩ := HC.out.ext he k hlt
          subst ha
          have HAX := Lib.hid (HA.out t k hlt ht)
          have hst := addAll_next (o := t) hlt
          have hlen := addS_len t (l.getD k [])
          by_cases hx : (addS t (l.getD k [])).2 = 0
          · have HT2 : Hid (S = addAll ((addS t (l.getD k [])).1, 0) (l.drop (k + 1))) := by show _ = _; rw [HT.out, hst, ← hx]
            rw [hx] at HAX
            generalize (addS t (l.getD k [])).1 = r at *
            generalize l.getD k [] = x at hcell HAX
            clear hx HT hst
            go_wp2_with (go_at_call 29; with_reducible refine (HAX.out _ he).mono ?_; rintro e w1 ⟨rfl, hE⟩)
            refine ⟨⟨k + 1, r, by omega, rfl, by go_num, by omega, HT2, he.trans hE⟩, by simp [intOf]; omega⟩
          · have hR : S = ([], (addS t (l.getD k [])).2) := by rw [HT.out, hst]; exact addAll_bad hx (addS_bad hx) _
            have HR := Lib.hid hR
            have hne : ((((addS t (l.getD k [])).2 : Nat) : Int) != 0) = true := by rw [bne_iff_ne]; omega
            clear hx HT hst hR hlen
            generalize addS t (l.getD k []) = r at *
            generalize l.getD k [] = x at hcell HAX
            go_wp2_with (go_at_call 29; with_reducible refine (HAX.out _ he).mono ?_; rintro e w1 ⟨rfl, hE⟩)
            go_ret2
            exact ⟨by rw [HR.out]; rfl, he.trans hE⟩
        · have hki : ¬ (k : Int) < (l.length : Int) := by omega
          have hR : S = (t, 0) := by rw [HT.out, List.drop_eq_nil_of_le (by omega)]; rfl
          have HR := Lib.hid hR
          clear HT hR
          go_wp2
          go_ret2
          exact ⟨by rw [HR.out]; rfl, he⟩
end Go.Proofs.YtpfanpkinlklnaaGreatDoor
/- The closures of FractionRing, and the law in plain terms. -/
namespace Go.Proofs.YtpfanpkinlklnaaGreatDoor
open Go.RowKit
open Go.Lib (decDigits itoa)

/-- a cell that is written with what it holds -/
theorem setCell_self {w : World} {a : Addr} {v : Value} (h : w.cell? a = some v) : w.setCell a v = w := by
  obtain ⟨b, off, spot⟩ := a
  have key : w.heap.modify b (fun
      | .cells c elem frozen => .cells (if spot.isSome then c else c.setIfInBounds off v) elem frozen
      | o => o) = w.heap := by
    apply Array.ext
    · simp
    · intro i h1 h2
      rw [Array.getElem_modify]
      split
      · rename_i hb
        subst hb
        have hi : w.heap[b]? = some w.heap[b] := Array.getElem?_eq_getElem h2
        cases ho : w.heap[b] with
        | cells c elem frozen =>
          rw [ho] at hi
          cases hs : spot with
          | some x => simp
          | none =>
            have hc : c[off]? = some v := by
              rw [hs] at h
              simpa [World.cell?, hi] using h
            simp only [Option.isSome_none, Bool.false_eq_true, if_false]
            congr 1
            apply Array.ext
            · simp
            · intro j k1 k2
              rw [Array.getElem_setIfInBounds]
              split
              · rename_i hj
                subst hj
                have := Array.getElem?_eq_getElem k2
                rw [hc] at this
                exact Option.some.inj this
              · rfl
        | _ => rfl
      · rfl
  exact congrArg (fun h => ({ w with heap := h } : World)) key
/-- the variable of the sums: all calls have succeeded -/
structure SumsOk (p q : Nat) (w : World) : Prop where
  ok : w.cell? ⟨p, 0, none⟩ = some (.bool true)
  fz : w.frozen? ⟨p, 0, none⟩ = false
  at_ : w.cell? ⟨q, 0, none⟩ = some (.pointer (some ⟨p, 0, none⟩))
theorem SumsOk.ext {p q : Nat} {w w' : World} (h : SumsOk p q w) (e : Ext w w') : SumsOk p q w' :=
  ⟨e.cell h.ok, (Below.frozen (p := ⟨p, 0, none⟩) e (cell_lt h.ok)).trans h.fz, e.cell h.at_⟩
set_option maxHeartbeats 2000000 in
theorem of_ok (t : Txt) (p q : Nat) (w : World) (h : SumsOk p q w) : Calls Tryz.prog 42 #[.pointer (some ⟨p, 0, none⟩), txt t, .int .i64 0] w fun e w' => e = .returned (txt t) ∧ Ext w w' := by
  obtain ⟨h1, h2, _⟩ := h
  have hs := setCell_self h1
  have HS : Hid (Ext w (w.setCell ⟨p, 0, none⟩ (.bool true))) := by show Ext _ _; rw [hs]; exact Ext.refl _
  clear hs
  go_enter Tryz.func42, Tryz.ntmps42
  go_wp2
  go_ret
  exact ⟨rfl, HS.out⟩
set_option maxHeartbeats 4000000 in
set_option maxRecDepth 100000 in
theorem addC_any (x y z : Txt) (p q : Nat) (w : World) (h : SumsOk p q w) (hG : Glob w) (hx : x.length ≤ 400) (hy : y.length ≤ 400) (hz : addS x y = (z, 0)) :
    Calls Tryz.prog 41 #[txt x, txt y, .pointer (some ⟨q, 0, none⟩)] w fun e w' => e = .returned (txt z) ∧ Ext w w' := by
  have HA : Hid (∀ W, Ext w W → Calls Tryz.prog 29 #[txt x, txt y] W (ResP (z, 0) W)) := fun W e => by rw [← hz]; exact add_any x y W (hG.ext e) hx hy
  have HO := Lib.hid (fun W (e : Ext w W) => of_ok z p q W (h.ext e))
  unfold ResP at HA
  have hc := h.at_
  clear hz hG hx hy h
  go_enter Tryz.func41, Tryz.ntmps41
  go_wp2_with fail
  have hdr : Ext w w.drew := (by repeat (first | with_reducible exact Ext.refl _ | with_reducible assumption | with_reducible apply Ext.drewN | with_reducible apply Ext.drew | with_reducible apply Ext.alloc | ((with_reducible refine Ext.set ?_ ?_ _); rotate_left; first | omega | (simp; omega)) | (with_reducible refine Ext.trans ?_ (by with_reducible assumption))))
  have hS := hdr.cell hc
  have E := hdr
  refine wp_region_heldE 99 (fun w' => w'.cell? ⟨q, 0, none⟩ = some (.pointer (some ⟨p, 0, none⟩))) (by kernel_rfl) ?_
  clear hdr hc
  generalize w.drew = W1 at E hS ⊢
  ((refine wpAnyE_take (i := 0) (oi := ?_) (v := ?_) ?_ (by kernel_rfl) ?_ ?_ (by assumption) ?_; rotate_left 2; (focus ((simp only [List.getElem?_toArray, List.getElem?_cons_zero]; exact rfl))); (focus (exact fun _ _ _ h => h)); (focus (refine Or.inl ⟨by rfl, ?_⟩; intro w hSw; (try dsimp only at hSw); (first | (go_simp; done) | (go_simp; with_reducible rfl)))); (try simp only [Act.put, List.setIfInBounds_toArray, List.set_cons_zero, List.set_cons_succ])); (refine wpAnyE_take (i := 1) (oi := ?_) (v := ?_) ?_ (by kernel_rfl) ?_ ?_ (by assumption) ?_; rotate_left 2; (focus ((simp only [List.getElem?_toArray, List.getElem?_cons_succ, List.getElem?_cons_zero]; exact rfl))); (focus (exact fun _ _ _ h => h)); (focus (refine Or.inl ⟨by rfl, ?_⟩; intro w hSw; (try dsimp only at hSw); (first | (go_simp; done) | (go_simp; with_reducible rfl)))); (try simp only [Act.put, List.setIfInBounds_toArray, List.set_cons_zero, List.set_cons_succ])); (refine wpAnyE_take (i := 2) (oi := ?_) (v := ?_) ?_ (by kernel_rfl) ?_ ?_ (by assumption) ?_; rotate_left 2; (focus ((simp only [List.getElem?_toArray, List.getElem?_cons_succ, List.getElem?_cons_zero]; exact rfl))); (focus (exact fun _ _ _ h => h)); (focus (refine Or.inl ⟨by rfl, ?_⟩; intro w hSw; (try dsimp only at hSw); (first | (go_simp; done) | (go_simp; with_reducible rfl)))); (try simp only [Act.put, List.setIfInBounds_toArray, List.set_cons_zero, List.set_cons_succ])))
  (refine wpAnyE_one (i := 3) (o := ?_) ?_ (by kernel_rfl) (fun K hK => ?_); rotate_left; (focus ((simp only [List.getElem?_toArray, List.getElem?_cons_succ, List.getElem?_cons_zero]; exact rfl))); go_simp; go_at_call 29; refine (HA.out _ E).mono ?_; rintro e w2 ⟨rfl, hE⟩; go_wp2_with fail; refine hK.out _ _ ?_ (fun hHeld => ?_); rotate_left; clear hK K; (try simp only [Act.put, List.setIfInBounds_toArray, List.set_cons_zero, List.set_cons_succ]))
  rotate_left
  · exact hE.cell hS
  have hS2 := hE.cell hS
  replace E := E.trans hE
  clear hE hS hHeld
  ((refine wpAnyE_pure (i := 4) (oi := ?_) (v := ?_) ?_ (by kernel_rfl) ?_ ?_ ?_ ?_; rotate_left 2; (focus ((simp only [List.getElem?_toArray, List.getElem?_cons_succ, List.getElem?_cons_zero]; exact rfl))); (focus (exact fun _ _ _ h => h)); (focus (refine Or.inl ⟨by rfl, ?_⟩; intro w hSw; clear hSw; (first | (go_simp; done) | (go_simp; with_reducible rfl)))); (focus (first | exact (fun _ => by assumption) | (intro hlst; exact absurd hlst (by kernel_rfl)) | (intro hlst; cases hlst))); (try simp only [Act.put, List.setIfInBounds_toArray, List.set_cons_zero, List.set_cons_succ])); (refine wpAnyE_pure (i := 5) (oi := ?_) (v := ?_) ?_ (by kernel_rfl) ?_ ?_ ?_ ?_; rotate_left 2; (focus ((simp only [List.getElem?_toArray, List.getElem?_cons_succ, List.getElem?_cons_zero]; exact rfl))); (focus (exact fun _ _ _ h => h)); (focus (refine Or.inl ⟨by rfl, ?_⟩; intro w hSw; clear hSw; (first | (go_simp; done) | (go_simp; with_reducible rfl)))); (focus (first | exact (fun _ => by assumption) | (intro hlst; exact absurd hlst (by kernel_rfl)) | (intro hlst; cases hlst))); (try simp only [Act.put, List.setIfInBounds_toArray, List.set_cons_zero, List.set_cons_succ])))
  (refine wpAnyE_one (i := 6) (o := ?_) ?_ (by kernel_rfl) (fun K hK => ?_); rotate_left; (focus ((simp only [List.getElem?_toArray, List.getElem?_cons_succ, List.getElem?_cons_zero]; exact rfl))); go_simp; go_at_call 42; refine (HO.out _ E).mono ?_; rintro e w3 ⟨rfl, hE⟩; go_wp2_with fail; refine hK.out _ _ ?_ (fun hHeld => ?_); rotate_left; clear hK K; (try simp only [Act.put, List.setIfInBounds_toArray, List.set_cons_zero, List.set_cons_succ]))
  rotate_left
  · exact hE.cell hS2
  have hS3 := hE.cell hS2
  replace E := E.trans hE
  clear hE hS2 hHeld
  ((refine wpAnyE_pure (i := 7) (oi := ?_) (v := ?_) ?_ (by kernel_rfl) ?_ ?_ ?_ ?_; rotate_left 2; (focus ((simp only [List.getElem?_toArray, List.getElem?_cons_succ, List.getElem?_cons_zero]; exact rfl))); (focus (exact fun _ _ _ h => h)); (focus (refine Or.inl ⟨by rfl, ?_⟩; intro w hSw; clear hSw; (first | (go_simp; done) | (go_simp; with_reducible rfl)))); (focus (first | exact (fun _ => by assumption) | (intro hlst; exact absurd hlst (by kernel_rfl)) | (intro hlst; cases hlst))); (try simp only [Act.put, List.setIfInBounds_toArray, List.set_cons_zero, List.set_cons_succ])))
  clear hS3
  refine wpAnyE_done (by kernel_rfl) ?_ _
  go_wp2_with fail
  go_ret
  exact ⟨rfl, E⟩
set_option maxHeartbeats 4000000 in
set_option maxRecDepth 100000 in
theorem mulC_any (x y z : Txt) (p q : Nat) (w : World) (h : SumsOk p q w) (hG : Glob w) (hx : x.length ≤ 400) (hy : y.length ≤ 400) (hz : mulS x y = (z, 0)) :
    Calls Tryz.prog 43 #[txt x, txt y, .pointer (some ⟨q, 0, none⟩)] w fun e w' => e = .returned (txt z) ∧ Ext w w' := by
  have HA : Hid (∀ W, Ext w W → Calls Tryz.prog 33 #[txt x, txt y] W (ResP (z, 0) W)) := fun W e => by rw [← hz]; exact mul_any x y W (hG.ext e) hx hy
  have HO := Lib.hid (fun W (e : Ext w W) => of_ok z p q W (h.ext e))
  unfold ResP at HA
  have hc := h.at_
  clear hz hG hx hy h
  go_enter Tryz.func43, Tryz.ntmps43
  go_wp2_with fail
  have hdr : Ext w w.drew := (by repeat (first | with_reducible exact Ext.refl _ | with_reducible assumption | with_reducible apply Ext.drewN | with_reducible apply Ext.drew | with_reducible apply Ext.alloc | ((with_reducible refine Ext.set ?_ ?_ _); rotate_left; first | omega | (simp; omega)) | (with_reducible refine Ext.trans ?_ (by with_reducible assumption))))
  have hS := hdr.cell hc
  have E := hdr
  refine wp_region_heldE 99 (fun w' => w'.cell? ⟨q, 0, none⟩ = some (.pointer (some ⟨p, 0, none⟩))) (by kernel_rfl) ?_
  clear hdr hc
  generalize w.drew = W1 at E hS ⊢
  ((refine wpAnyE_take (i := 0) (oi := ?_) (v := ?_) ?_ (by kernel_rfl) ?_ ?_ (by assumption) ?_; rotate_left 2; (focus ((simp only [List.getElem?_toArray, List.getElem?_cons_zero]; exact rfl))); (focus (exact fun _ _ _ h => h)); (focus (refine Or.inl ⟨by rfl, ?_⟩; intro w hSw; (try dsimp only at hSw); (first | (go_simp; done) | (go_simp; with_reducible rfl)))); (try simp only [Act.put, List.setIfInBounds_toArray, List.set_cons_zero, List.set_cons_succ])); (refine wpAnyE_take (i := 1) (oi := ?_) (v := ?_) ?_ (by kernel_rfl) ?_ ?_ (by assumption) ?_; rotate_left 2; (focus ((simp only [List.getElem?_toArray, List.getElem?_cons_succ, List.getElem?_cons_zero]; exact rfl))); (focus (exact fun _ _ _ h => h)); (focus (refine Or.inl ⟨by rfl, ?_⟩; intro w hSw; (try dsimp only at hSw); (first | (go_simp; done) | (go_simp; with_reducible rfl)))); (try simp only [Act.put, List.setIfInBounds_toArray, List.set_cons_zero, List.set_cons_succ])); (refine wpAnyE_take (i := 2) (oi := ?_) (v := ?_) ?_ (by kernel_rfl) ?_ ?_ (by assumption) ?_; rotate_left 2; (focus ((simp only [List.getElem?_toArray, List.getElem?_cons_succ, List.getElem?_cons_zero]; exact rfl))); (focus (exact fun _ _ _ h => h)); (focus (refine Or.inl ⟨by rfl, ?_⟩; intro w hSw; (try dsimp only at hSw); (first | (go_simp; done) | (go_simp; with_reducible rfl)))); (try simp only [Act.put, List.setIfInBounds_toArray, List.set_cons_zero, List.set_cons_succ])))
  (refine wpAnyE_one (i := 3) (o := ?_) ?_ (by kernel_rfl) (fun K hK => ?_); rotate_left; (focus ((simp only [List.getElem?_toArray, List.getElem?_cons_succ, List.getElem?_cons_zero]; exact rfl))); go_simp; go_at_call 33; refine (HA.out _ E).mono ?_; rintro e w2 ⟨rfl, hE⟩; go_wp2_with fail; refine hK.out _ _ ?_ (fun hHeld => ?_); rotate_left; clear hK K; (try simp only [Act.put, List.setIfInBounds_toArray, List.set_cons_zero, List.set_cons_succ]))
  rotate_left
  · exact hE.cell hS
  have hS2 := hE.cell hS
  replace E := E.trans hE
  clear hE hS hHeld
  ((refine wpAnyE_pure (i := 4) (oi := ?_) (v := ?_) ?_ (by kernel_rfl) ?_ ?_ ?_ ?_; rotate_left 2; (focus ((simp only [List.getElem?_toArray, List.getElem?_cons_succ, List.getElem?_cons_zero]; exact rfl))); (focus (exact fun _ _ _ h => h)); (focus (refine Or.inl ⟨by rfl, ?_⟩; intro w hSw; clear hSw; (first | (go_simp; done) | (go_simp; with_reducible rfl)))); (focus (first | exact (fun _ => by assumption) | (intro hlst; exact absurd hlst (by kernel_rfl)) | (intro hlst; cases hlst))); (try simp only [Act.put, List.setIfInBounds_toArray, List.set_cons_zero, List.set_cons_succ])); (refine wpAnyE_pure (i := 5) (oi := ?_) (v := ?_) ?_ (by kernel_rfl) ?_ ?_ ?_ ?_; rotate_left 2; (focus ((simp only [List.getElem?_toArray, List.getElem?_cons_succ, List.getElem?_cons_zero]; exact rfl))); (focus (exact fun _ _ _ h => h)); (focus (refine Or.inl ⟨by rfl, ?_⟩; intro w hSw; clear hSw; (first | (go_simp; done) | (go_simp; with_reducible rfl)))); (focus (first | exact (fun _ => by assumption) | (intro hlst; exact absurd hlst (by kernel_rfl)) | (intro hlst; cases hlst))); (try simp only [Act.put, List.setIfInBounds_toArray, List.set_cons_zero, List.set_cons_succ])))
  (refine wpAnyE_one (i := 6) (o := ?_) ?_ (by kernel_rfl) (fun K hK => ?_); rotate_left; (focus ((simp only [List.getElem?_toArray, List.getElem?_cons_succ, List.getElem?_cons_zero]; exact rfl))); go_simp; go_at_call 42; refine (HO.out _ E).mono ?_; rintro e w3 ⟨rfl, hE⟩; go_wp2_with fail; refine hK.out _ _ ?_ (fun hHeld => ?_); rotate_left; clear hK K; (try simp only [Act.put, List.setIfInBounds_toArray, List.set_cons_zero, List.set_cons_succ]))
  rotate_left
  · exact hE.cell hS2
  have hS3 := hE.cell hS2
  replace E := E.trans hE
  clear hE hS2 hHeld
  ((refine wpAnyE_pure (i := 7) (oi := ?_) (v := ?_) ?_ (by kernel_rfl) ?_ ?_ ?_ ?_; rotate_left 2; (focus ((simp only [List.getElem?_toArray, List.getElem?_cons_succ, List.getElem?_cons_zero]; exact rfl))); (focus (exact fun _ _ _ h => h)); (focus (refine Or.inl ⟨by rfl, ?_⟩; intro w hSw; clear hSw; (first | (go_simp; done) | (go_simp; with_reducible rfl)))); (focus (first | exact (fun _ => by assumption) | (intro hlst; exact absurd hlst (by kernel_rfl)) | (intro hlst; cases hlst))); (try simp only [Act.put, List.setIfInBounds_toArray, List.set_cons_zero, List.set_cons_succ])))
  clear hS3
  refine wpAnyE_done (by kernel_rfl) ?_ _
  go_wp2_with fail
  go_ret
  exact ⟨rfl, E⟩

/-! ### The law -/
structure RingL (a b c ab mab bc abc X acm bcm ac nb : Txt) : Prop where
  e1 : addS b a = (ab, 0)
  e2 : addS a b = (ab, 0)
  e3 : mulS b a = (mab, 0)
  e4 : mulS a b = (mab, 0)
  e5 : addS b c = (bc, 0)
  e6 : addS a bc = (abc, 0)
  e7 : addS ab c = (abc, 0)
  e8 : mulS ab c = (X, 0)
  e9 : mulS a c = (acm, 0)
  e10 : mulS b c = (bcm, 0)
  e11 : addS acm bcm = (X, 0)
  e12 : addS a c = (ac, 0)
  e13 : subS ac c = (a, 0)
  e14 : sumR [c, b, a] = (abc, 0)
  e15 : negR b = (nb, 0)
  e16 : addS b nb = ([48], 0)
  e17 : c = [48] → divS a c = ([], 10)
  e18 : c ≠ [48] → divS bcm c = (b, 0)
  right : ∀ x ∈ [a, b, c, ab, mab, bc, abc, X, acm, bcm, ac, nb, [48]], fracE x = 0
theorem ring_law {a b c : Txt} (ha : fracE a = 0) (hb : fracE b = 0) (hc : fracE c = 0) (la : a.length ≤ 10) (lb : b.length ≤ 10) (lc : c.length ≤ 10) :
    ∃ ab mab bc abc X acm bcm ac nb, RingL a b c ab mab bc abc X acm bcm ac nb := by
  have ga := Good.short ha la
  have gb := Good.short hb lb
  have gc := Good.short hc lc
  generalize fracQ a = q at *
  generalize fracQ b = r at *
  generalize fracQ c = t at *
  have k2 := ga.add gb (by omega)
  have k1 := gb.add ga (by omega)
  have k4 := ga.mul gb (by omega)
  have k3 := gb.mul ga (by omega)
  have k5 := gb.add gc (by omega)
  have k6 := ga.add k5.2 (by omega)
  have k7 := k2.2.add gc (by omega)
  have k8 := k2.2.mul gc (by omega)
  have k9 := ga.mul gc (by omega)
  have k10 := gb.mul gc (by omega)
  have k11 := k9.2.add k10.2 (by omega)
  have k12 := ga.add gc (by omega)
  have k13 := k12.2.sub gc (by omega)
  have k15 := gb.neg (by omega)
  have k16 := gb.add k15.2 (by omega)
  have s1 := zero_good.add gc (by omega)
  have s2 := s1.2.add gb (by omega)
  have s3 := s2.2.add ga (by omega)
  have z0 : fracT 0 = [48] := by
    have := zero_good.val
    rw [← this, frac_back zero_good.ok]
  refine ⟨fracT (q + r), fracT (q * r), fracT (r + t), fracT (q + (r + t)), fracT ((q + r) * t), fracT (q * t), fracT (r * t), fracT (q + t), fracT (-r), ?_⟩
  refine ⟨by rw [k1.1, (law_swap q r).1], k2.1, by rw [k3.1, (law_swap q r).2], k4.1, k5.1, k6.1, by rw [k7.1, Rat.add_assoc], k8.1, k9.1, k10.1, by rw [k11.1, Rat.add_mul], k12.1, ?_, ?_, k15.1, ?_, ?_, ?_, ?_⟩
  · rw [k13.1, law_undo, ← ga.val, frac_back ha]
  · have hf : firstE [c, b, a] = 0 := by
      unfold firstE
      rw [if_pos hc]
      unfold firstE
      rw [if_pos hb]
      unfold firstE
      rw [if_pos ha]
      rfl
    rw [sum_all (by simp) hf]
    show ifOk 0 badR (addAll (addS [48] c) [b, a]) = _
    rw [s1.1]
    show addAll (addS _ b) [a] = _
    rw [s2.1]
    show addAll (addS _ a) [] = _
    rw [s3.1]
    show (_, 0) = _
    rw [Rat.zero_add, Rat.add_comm (t + r) q, Rat.add_comm t r]
  · rw [k16.1, law_rest, z0]
  · intro h
    unfold divS ifOk
    rw [if_pos (ga.both gc), if_pos h]
  · intro h
    have ht : t ≠ 0 := fun e => h (gc.zero.2 e)
    have k18 := k10.2.div gc (by omega) ht
    rw [k18.1, Rat.mul_div_cancel ht, ← gb.val, frac_back hb]
  · intro x hx
    simp only [List.mem_cons, List.mem_nil_iff, or_false] at hx
    rcases hx with rfl | rfl | rfl | rfl | rfl | rfl | rfl | rfl | rfl | rfl | rfl | rfl | rfl
    · exact ha
    · exact hb
    · exact hc
    · exact k2.2.ok
    · exact k4.2.ok
    · exact k5.2.ok
    · exact k6.2.ok
    · exact k8.2.ok
    · exact k9.2.ok
    · exact k10.2.ok
    · exact k12.2.ok
    · exact k15.2.ok
    · exact zero_good.ok
end Go.Proofs.YtpfanpkinlklnaaGreatDoor
/- Lists of pairs of equal texts in memory. -/
namespace Go.Proofs.YtpfanpkinlklnaaGreatDoor
open Go.RowKit

theorem step_append_run2 {P : Program} {ops : Array Oper} {o : Oper} {a : Act} {w : World} {K : Act → World → Prop} {Q : Exit → Act → World → Prop} {E : Prop} (hgd : o.guard = none) (s x : Operand) (t u : TypeId)
    (ho : o.op = .call { callee := .builtin .append, args := #[s, x], argTypes := #[t, u] }) (v y : Value) (hs : a.eval s = v) (hx : a.eval x = y)
    (v' : Value) (w' : World) (hr : (Builtin.append_ #[t, u] o.type #[v, y]).run P w = .ok v' w')
    (h : K (a.put o.dst v') w') :
    if Region.wanted o (yielded ops a.tmps) = true then Oper.wp P o a w K Q else E := by
  have hw : Region.wanted o (yielded ops a.tmps) = true := by simp [Region.wanted, hgd]
  rw [if_pos hw]
  unfold Oper.wp execOp
  simp only [ho, resolve, invoke, builtin, Sem.run_bind, Sem.run_pure, Result.andThen_ok, List.map_toArray, List.map_cons, List.map_nil, hs, hx, hr]
  exact h
/-- pairs of equal texts, their cells one behind the other -/
def flatZ : List Txt → List Value
  | [] => []
  | z :: l => txt z :: txt z :: flatZ l
theorem flatZ_len : ∀ l : List Txt, (flatZ l).length = l.length * 2
  | [] => rfl
  | z :: l => by simp only [flatZ, List.length_cons, flatZ_len l]; omega
theorem flatZ_app : ∀ (l m : List Txt), flatZ (l ++ m) = flatZ l ++ flatZ m
  | [], _ => rfl
  | z :: l, m => by simp only [List.cons_append, flatZ, flatZ_app l m]
theorem flatZ_get : ∀ (l : List Txt) (k : Nat), k < l.length → (flatZ l)[k * 2]? = some (txt (l.getD k [])) ∧ (flatZ l)[k * 2 + 1]? = some (txt (l.getD k []))
  | [], _, h => by simp at h
  | z :: l, 0, _ => ⟨rfl, rfl⟩
  | z :: l, k + 1, h => by
    have ih := flatZ_get l k (by simpa using h)
    have e1 : (k + 1) * 2 = k * 2 + 1 + 1 := by omega
    have e2 : (k + 1) * 2 + 1 = k * 2 + 1 + 1 + 1 := by omega
    rw [e2, e1]
    exact ih
def OwnPr (w : World) (v : Value) (l : List Txt) : Prop := w.ownsRow 0 58 2 v l.length (flatZ l)
theorem OwnPr.ext {A B : World} {v : Value} {l : List Txt} (h : OwnPr A v l) (he : Ext A B) : OwnPr B v l := rowExt h he
theorem OwnPr.reads {A : World} {v : Value} {l : List Txt} (h : OwnPr A v l) (hl : l ≠ []) :
    ∃ g cap, v = .slice (some ⟨g, 0, none⟩) l.length cap ∧ ∀ k, k < l.length → A.cell? ⟨g, k * 2, none⟩ = some (txt (l.getD k [])) ∧ A.cell? ⟨g, k * 2 + 1, none⟩ = some (txt (l.getD k [])) := by
  obtain ⟨a, cap, hv, _, hr⟩ := rowReads h
  have h0 : 0 < l.length := List.length_pos_iff.2 hl
  obtain ⟨g, hg, _⟩ := hr 0 _ (by have := (flatZ_get l 0 h0).1; rwa [Nat.zero_mul] at this)
  refine ⟨g, cap, by rw [hv, hg], fun k hk => ?_⟩
  obtain ⟨k1, k2⟩ := flatZ_get l k hk
  constructor
  · obtain ⟨b, hb, _, h1, _⟩ := hr _ _ k1
    rw [hg] at hb
    cases hb
    exact h1
  · obtain ⟨b, hb, _, h1, _⟩ := hr _ _ k2
    rw [hg] at hb
    cases hb
    exact h1
theorem own_new (w : World) (l : List Txt) (n : Nat) (hn : n = l.length) (hm : n ≤ maxLen) : OwnPr (w.alloc (.cells (flatZ l).toArray 58)) (.slice (some ⟨w.heap.size, 0, none⟩) n n) l := by
  subst hn
  refine ⟨flatZ_len l, .inr ⟨w.heap.size, l.length, (flatZ l).toArray, rfl, Nat.zero_le _, ?_, Nat.le_refl _, hm, by simp [flatZ_len], ?_⟩⟩
  · show (w.heap.push _)[w.heap.size]? = _
    rw [Array.getElem?_push, if_pos rfl]
  · rw [← flatZ_len l]; simp
theorem infoFr : (Tryz.prog.info? 58).map (fun i => (i.zero, i.size, i.bytes)) = some (some (.agg #[.string ⟨#[]⟩, .string ⟨#[]⟩]), 2, 32) := by kernel_rfl
/-- one pair more -/
theorem OwnPr.app {w : World} {v : Value} {l : List Txt} (h : OwnPr w v l) (z : Txt) (b : Nat) (h1 : w.cell? ⟨b, 0, none⟩ = some (txt z)) (h2 : w.cell? ⟨b, 1, none⟩ = some (txt z)) (hl : l.length ≤ 100) :
    ∃ v' w', (Builtin.append_ #[59, 59] 59 #[v, .slice (some ⟨b, 0, none⟩) 1 1]).run Tryz.prog w = .ok v' w' ∧ OwnPr w' v' (l ++ [z]) ∧ AppEnd w w' v v' := by
  obtain ⟨i0, hi, hi0, hi1, hi2⟩ := info_parts infoFr
  obtain ⟨v', w', hr, h3, h4⟩ := run_append1 (P := Tryz.prog) w 59 59 58 i0 (.agg #[.string ⟨#[]⟩, .string ⟨#[]⟩]) 2 32 Tryz.underlying59 hi hi0 hi1 hi2 rfl (by decide) v l.length _ h ⟨b, 0, none⟩ 1 1 (by omega) [txt z, txt z] rfl
    (fun j u hj => by
      rcases j with _ | _ | j
      · have : txt z = u := by simpa using hj
        rw [← this]; exact h1
      · have : txt z = u := by simpa using hj
        rw [← this]; exact h2
      · simp at hj) (fun u hu => by
      have : u = txt z := by simpa using hu
      rw [this]; rfl) (by have : (1000 : Nat) ≤ maxLen := by decide
                          omega) (by omega)
  refine ⟨v', w', hr, ?_, h4⟩
  unfold OwnPr
  rw [List.length_append, flatZ_app]
  exact h3
end Go.Proofs.YtpfanpkinlklnaaGreatDoor
/- A region that draws its order: a chain of operations, and one operation that may come up before any of the first N of them. -/
namespace Go.Proofs.YtpfanpkinlklnaaGreatDoor
open Go Go.RowKit
variable {P : Program} {md : Region.Mode} {ops : Array Oper} {Q : Exit → Act → World → Prop} {S : World → Prop} {f : Nat}

theorem wpAnyE_swap {fuel : Nat} {l l' : Array Bool} {a : Act} {w : World} (h : l' = l) (H : wpAnyE P md ops Q S f fuel l a w) : wpAnyE P md ops Q S f fuel l' a w := h ▸ H
/-- A s g: the floating operation has come up, and made g; B s: it has not; s operations of the chain have come up -/
theorem chain_float (N : Nat) (fA fB : Nat → Nat) (lA lB : Nat → Array Bool) (aA : Nat → Nat → Act) (aB : Nat → Act) (J : World → Prop) (JA : Nat → World → Prop)
    (hend : ∀ g W, J W → JA g W → wpAnyE P md ops Q S f (fA N) (lA N) (aA N g) W)
    (hA : ∀ s, s < N → ∀ g W, J W → JA g W → (∀ W', J W' → JA g W' → wpAnyE P md ops Q S f (fA (s + 1)) (lA (s + 1)) (aA (s + 1) g) W') → wpAnyE P md ops Q S f (fA s) (lA s) (aA s g) W)
    (hB : ∀ s, s ≤ N → ∀ W, J W → (∀ g W', J W' → JA g W' → wpAnyE P md ops Q S f (fA s) (lA s) (aA s g) W') → (s < N → ∀ W', J W' → wpAnyE P md ops Q S f (fB (s + 1)) (lB (s + 1)) (aB (s + 1)) W') →
      wpAnyE P md ops Q S f (fB s) (lB s) (aB s) W) : ∀ W, J W → wpAnyE P md ops Q S f (fB 0) (lB 0) (aB 0) W := by
  have A : ∀ k s, s + k = N → ∀ g W, J W → JA g W → wpAnyE P md ops Q S f (fA s) (lA s) (aA s g) W := by
    intro k
    induction k with
    | zero => intro s hs; obtain rfl : s = N := by omega
              exact hend
    | succ k ih => intro s hs g W hJ hG; exact hA s (by omega) g W hJ hG (ih (s + 1) (by omega) g)
  have B : ∀ k s, s + k = N → ∀ W, J W → wpAnyE P md ops Q S f (fB s) (lB s) (aB s) W := by
    intro k
    induction k with
    | zero => intro s hs W hJ; exact hB s (by omega) W hJ (A 0 s hs) (fun h => by omega)
    | succ k ih => intro s hs W hJ; exact hB s (by omega) W hJ (A (k + 1) s hs) (fun _ => ih (s + 1) (by omega))
  exact B N 0 (by omega)
end Go.Proofs.YtpfanpkinlklnaaGreatDoor
