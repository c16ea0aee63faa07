/- Steps of the proof: Shelf, FSpec, FFmt, FMakP, FLongR, FOfR, FMak, FCeilP, FAwk, EOpen, FSumsP, ESumT, ETopP, ETopS. No conditions. -/
import Derived.Shelf.Strings.Builder1
import Derived.Shelf.Strings.Builder2
import Derived.Shelf.Strings.Trim
import Derived.Shelf.Small.Utf8
import Derived.Shelf.Small.Strs
import Derived.Shelf.Small.Wraps
import Derived.Shelf.Strings.BuilderF
import Derived.Shelf.Strings.BuilderK
import Derived.Shelf.Strings.Builder2Cap
import Derived.Shelf.Strconv.Itoa0
import Derived.Shelf.Strconv.Itoa1
import Derived.Shelf.LaysM
import Derived.Shelf.Strconv.Itoa2
import Derived.Shelf.Strconv.Itoa3
import Derived.Shelf.Strconv.Clone
import Derived.Shelf.Strconv.SyntaxError
import Derived.Shelf.LaysC
import Derived.Shelf.Strconv.ToError
import Derived.Shelf.Strconv.Lower
import Derived.Shelf.Strconv.ParseUint10
import Derived.Shelf.Strconv.ParseUint10Empty
import Derived.Shelf.Strconv.ParseUint10Any
import Derived.Shelf.Strconv.RangeError
import Derived.Shelf.Strconv.ToErrorRange
import Derived.Shelf.Strconv.ParseUintEmpty
import Derived.Shelf.Strconv.ParseUint10b64
import Derived.Shelf.Strconv.ParseUint10b32
import Derived.Shelf.Strconv.ParseUint10b16
import Derived.Shelf.Strconv.ParseUint10b8
import Derived.Shelf.Strconv.ParseUint10At
import Derived.Ground.MpProg
import Derived.Shelf.Pu.ParseUintPublic10
import Derived.Shelf.Strings.Search1
import Derived.Shelf.Strings.Search2
import Derived.Shelf.Strings.Cut
import Derived.Shelf.Strings.Shaped
import Derived.Shelf.Strings.Prefix
import Derived.Shelf.Unicode.Decode
import Derived.Shelf.Strings.Runes
import Derived.Shelf.Strings.AsciiSet
import Derived.Shelf.Bits.Mul64
import Derived.Shelf.Strings.Repeat
import Derived.Shelf.Unicode.DecodeSlow
import Derived.Shelf.Unicode.DecodeAny
import Derived.Shelf.Unicode.DecodeLast
import Derived.Shelf.Strings.BuilderCap
import Derived.Ground.Names2Prog
import Derived.Shelf.Slices.SearchI
import Derived.Ground.SlgnProg
import Derived.Shelf.SlicesE.Reverse
import Derived.Test.YtdejgaiocjfhjaaGreatDoorProg
import Derived.Lib.SmallJoins
import Derived.Deep.Slices
import Derived.Test.YtdejgaiocjfhjaaGreatDoorZEB1
import Derived.Test.YtdejgaiocjfhjaaGreatDoorZEB2
import Derived.Test.YtdejgaiocjfhjaaGreatDoorZEB3
import Derived.Test.YtdejgaiocjfhjaaGreatDoorZEB4
import Derived.Test.YtdejgaiocjfhjaaGreatDoorZEB5
import Derived.Test.YtdejgaiocjfhjaaGreatDoorZEB6
import Derived.Test.YtdejgaiocjfhjaaGreatDoorZEB7
import Derived.Test.YtdejgaiocjfhjaaGreatDoorZEB8
import Derived.Test.YtdejgaiocjfhjaaGreatDoorZEB9
import Derived.Test.YtdejgaiocjfhjaaGreatDoorZEB10
import Derived.Test.YtdejgaiocjfhjaaGreatDoorZEB11
import Derived.Test.YtdejgaiocjfhjaaGreatDoorZEB12
namespace Go.Proofs
open Go.Shelf
def Tryz.laysM171_ren : Go.Shelf.Ren := ⟨fun | 171 => 96 | 243 => 133 | 246 => 168 | 283 => 193 | 284 => 194 | 285 => 195 | 286 => 196 | 129 => 215 | 317 => 214 | 318 => 216 | 319 => 217 | 320 => 218 | 337 => 234 | 338 => 235 | n => n, fun | 3 => 3 | 9 => 9 | 2 => 2 | 4 => 4 | 171 => 214 | 0 => 0 | 53 => 161 | 37 => 174 | 5 => 5 | 173 => 217 | 212 => 236 | 51 => 237 | 20 => 20 | 213 => 238 | 46 => 223 | 232 => 262 | 233 => 263 | n => n, fun | 17 => 1 | 18 => 6 | 19 => 7 | n => n⟩
theorem Tryz.laysM171 : Go.Proofs.LaysM.n171 Tryz.prog Tryz.laysM171_ren := {
  mixed := by kernel_rfl
  f129 := Tryz.func215.trans (congrArg some (by kernel_rfl))
  f171 := Tryz.func96.trans (congrArg some (by kernel_rfl))
  f243 := Tryz.func133.trans (congrArg some (by kernel_rfl))
  f246 := Tryz.func168.trans (congrArg some (by kernel_rfl))
  f283 := Tryz.func193.trans (congrArg some (by kernel_rfl))
  f284 := Tryz.func194.trans (congrArg some (by kernel_rfl))
  f285 := Tryz.func195.trans (congrArg some (by kernel_rfl))
  f286 := Tryz.func196.trans (congrArg some (by kernel_rfl))
  f317 := Tryz.func214.trans (congrArg some (by kernel_rfl))
  f318 := Tryz.func216.trans (congrArg some (by kernel_rfl))
  f319 := Tryz.func217.trans (congrArg some (by kernel_rfl))
  f320 := Tryz.func218.trans (congrArg some (by kernel_rfl))
  f337 := Tryz.func234.trans (congrArg some (by kernel_rfl))
  f338 := Tryz.func235.trans (congrArg some (by kernel_rfl))
  t0 := Tryz.underlying0
  a0 := Tryz.isAgg0
  z0 := Tryz.sizeOf0
  v0 := Tryz.zeroValue0
  t2 := Tryz.underlying2
  a2 := Tryz.isAgg2
  z2 := Tryz.sizeOf2
  v2 := Tryz.zeroValue2
  t3 := Tryz.underlying3
  a3 := Tryz.isAgg3
  z3 := Tryz.sizeOf3
  v3 := Tryz.zeroValue3
  t4 := Tryz.underlying4
  a4 := Tryz.isAgg4
  z4 := Tryz.sizeOf4
  v4 := Tryz.zeroValue4
  t5 := Tryz.underlying5
  a5 := Tryz.isAgg5
  z5 := Tryz.sizeOf5
  v5 := Tryz.zeroValue5
  t9 := Tryz.underlying9
  a9 := Tryz.isAgg9
  z9 := Tryz.sizeOf9
  v9 := Tryz.zeroValue9
  t20 := Tryz.underlying20
  a20 := Tryz.isAgg20
  z20 := Tryz.sizeOf20
  v20 := Tryz.zeroValue20
  t37 := Tryz.underlying174
  a37 := Tryz.isAgg174
  z37 := Tryz.sizeOf174
  v37 := Tryz.zeroValue174
  t46 := Tryz.underlying223
  a46 := Tryz.isAgg223
  z46 := Tryz.sizeOf223
  v46 := Tryz.zeroValue223
  t51 := Tryz.underlying237
  a51 := Tryz.isAgg237
  z51 := Tryz.sizeOf237
  v51 := Tryz.zeroValue237
  t53 := Tryz.underlying161
  a53 := Tryz.isAgg161
  z53 := Tryz.sizeOf161
  v53 := Tryz.zeroValue161
  t171 := Tryz.underlying214
  a171 := Tryz.isAgg214
  z171 := Tryz.sizeOf214
  v171 := Tryz.zeroValue214
  t173 := Tryz.underlying217
  a173 := Tryz.isAgg217
  z173 := Tryz.sizeOf217
  v173 := Tryz.zeroValue217
  t212 := Tryz.underlying236
  a212 := Tryz.isAgg236
  z212 := Tryz.sizeOf236
  v212 := Tryz.zeroValue236
  t213 := Tryz.underlying238
  a213 := Tryz.isAgg238
  z213 := Tryz.sizeOf238
  t232 := Tryz.underlying262
  a232 := Tryz.isAgg262
  z232 := Tryz.sizeOf262
  v232 := Tryz.zeroValue262
  t233 := Tryz.underlying263
  a233 := Tryz.isAgg263
  z233 := Tryz.sizeOf263
  v233 := Tryz.zeroValue263
  g17 := by kernel_rfl
  g18 := by kernel_rfl
  g19 := by kernel_rfl
  i0 := by kernel_rfl
  i2 := by kernel_rfl
  i3 := by kernel_rfl
  i4 := by kernel_rfl
  i5 := by kernel_rfl
  i9 := by kernel_rfl
  i20 := by kernel_rfl
  i37 := by kernel_rfl
  i46 := by kernel_rfl
  i51 := by kernel_rfl
  i53 := by kernel_rfl
  i171 := by kernel_rfl
  i173 := by kernel_rfl
  i212 := by kernel_rfl
  i232 := by kernel_rfl
  i233 := by kernel_rfl
  m17 := by kernel_rfl
  m18 := by kernel_rfl
  m19 := by kernel_rfl }
open Go.RowKit Go.Sort Go.Lib in
theorem Tryz.strconv_Itoa (n : Int) (h0 : -9223372036854775808 ≤ n) (h1 : n ≤ 9223372036854775807) (w : World) (htab : Lib.TabIs Tryz.prog w "internal/strconv.uint64pow10" .u64 Lib.pow10Tab) :
    Calls Tryz.prog 96 #[.int .i64 n] w fun e w' => e = .returned (.string ⟨(Lib.itoa n).toArray⟩) ∧ ∃ k os, w' = grow (w.drewN k) os := Any.strconv_Itoa Tryz.laysM171 n h0 h1 w htab
end Go.Proofs
namespace Go.Proofs.YtdejgaiocjfhjaaGreatDoor
open Go.Lib (decDigits itoa)
def makeR (s t : Txt) : Res := ifOk (intE s) badR (ifOk (intE t) badR (if t = [48] then ([], 10) else resQ ((intV s : Rat) / (intV t : Rat))))
def addAll : Res → List Txt → Res
  | r, [] => r
  | r, a :: l => ifOk r.2 badR (addAll (addS r.1 a) l)
def firstE : List Txt → Nat
  | [] => 0
  | a :: l => if fracE a = 0 then firstE l else fracE a
def sumR (l : List Txt) : Res := if 4096 < l.length then ([], 5) else ifOk (firstE l) badR (addAll ([48], 0) l)
theorem int_div {z y : Int} (hy : y ≠ 0) : numQ (decide (z < 0) != decide (y < 0)) z.natAbs y.natAbs = (z : Rat) / (y : Rat) := by
  have key : ∀ x : Int, (x : Rat) = numQ (decide (x < 0)) x.natAbs 1 := fun x => by
    apply Rat.ext
    · rw [(num_of (by omega)).1, Rat.num_intCast, Nat.gcd_one_right, Nat.div_one]
      unfold sgnI
      by_cases h : x < 0
      · rw [decide_eq_true h, if_pos rfl]; omega
      · rw [decide_eq_false h, if_neg (by simp)]; omega
    · rw [(num_of (by omega)).2, Rat.den_intCast, Nat.gcd_one_right, Nat.div_one]
  rw [key z, key y, ← num_div _ _ _ _ _ _ (by omega) (by omega), Nat.mul_one, Nat.one_mul]
theorem int_zero {s : Txt} (h : IntS s) : s = [48] ↔ intV s = 0 := by
  constructor
  · rintro rfl; rfl
  · intro e
    rw [← int_back h, e]
    exact (Go.Lib.itoa_nonneg 0).trans (digits_small (by omega))
end Go.Proofs.YtdejgaiocjfhjaaGreatDoor
namespace Go.Proofs.YtdejgaiocjfhjaaGreatDoor
open Go.RowKit Go.Lib Go.Sort
theorem ext_grow {w A : World} (h : Ext w A) (os : Array Obj) : Ext w (grow A os) := by
  refine ⟨h.os, h.tape, h.output, by simp only [grow, Array.size_append]; have := h.size; omega, fun k hk => ?_⟩
  rw [← h.block k hk]
  simp only [grow]
  exact Array.getElem?_append_left (Nat.lt_of_lt_of_le hk h.size)
theorem Itoa_any (n : Int) (w : World) (h0 : -9223372036854775808 ≤ n) (h1 : n ≤ 9223372036854775807) (htab : TabIs Tryz.prog w "internal/strconv.uint64pow10" .u64 pow10Tab) :
    Calls Tryz.prog 96 #[.int .i64 n] w fun e w' => e = .returned (.string ⟨(itoa n).toArray⟩) ∧ Ext w w' :=
  (Tryz.strconv_Itoa n h0 h1 w htab).mono fun e w' h => by
    obtain ⟨h1, k, os, rfl⟩ := h
    exact ⟨h1, ext_grow (Ext.drewN (Ext.refl w) k) os⟩
end Go.Proofs.YtdejgaiocjfhjaaGreatDoor
namespace Go.Proofs.YtdejgaiocjfhjaaGreatDoor
open Go.RowKit
open Go.Lib (decDigits)
theorem neg_int {s : Txt} (h : IntS s) : decide (intV s < 0) = negS s := by
  unfold intV
  cases hn : negS s with
  | false => rw [if_neg (by simp)]; exact decide_eq_false (by omega)
  | true =>
    rw [if_pos rfl]
    refine decide_eq_true ?_
    have h0 : decV (bareS s) ≠ 0 := fun e => by
      have h1 := canon_zero h.1 e
      have h2 := neg_cons hn
      rw [h1] at h2
      exact h.2 h2
    omega
theorem make_num {s t : Txt} (hs : intE s = 0) (ht : intE t = 0) (h0 : t ≠ [48]) :
    makeR s t = resQ (numQ (negS s != negS t) (decV (bareS s)) (decV (bareS t))) ∧ decV (bareS t) ≠ 0 := by
  obtain ⟨h1, _⟩ := intE_zero hs
  obtain ⟨h2, _⟩ := intE_zero ht
  have hz : intV t ≠ 0 := fun e => h0 ((int_zero h2).2 e)
  refine ⟨?_, fun e => hz (by have := intV_abs t; omega)⟩
  unfold makeR ifOk
  rw [if_pos hs, if_pos ht, if_neg h0, ← int_div hz, neg_int h1, neg_int h2, intV_abs, intV_abs]
theorem make_e1 {s t : Txt} (hs : intE s ≠ 0) : makeR s t = ([], intE s) := by unfold makeR ifOk badR; rw [if_neg hs]
theorem make_e2 {s t : Txt} (hs : intE s = 0) (ht : intE t ≠ 0) : makeR s t = ([], intE t) := by unfold makeR ifOk badR; rw [if_pos hs, if_neg ht]
theorem make_z {s t : Txt} (hs : intE s = 0) (ht : intE t = 0) (h0 : t = [48]) : makeR s t = ([], 10) := by unfold makeR ifOk; rw [if_pos hs, if_pos ht, if_pos h0]
theorem int_head {s : Txt} (h : intE s = 0) : ∃ c, (∀ k, (⟨s.toArray⟩ : ByteArray)[0]'k = c) ∧ ((c.toNat : Int) == 45) = negS s ∧ 0 < s.length := by
  have hne : s ≠ [] := fun e => (intE_ok h).1.2.1 (by rw [e]; rfl)
  obtain ⟨c, m, hcm⟩ := List.exists_cons_of_ne_nil hne
  exact ⟨c, fun _ => by subst hcm; rfl, head_neg hcm, by rw [hcm]; simp⟩
set_option maxHeartbeats 8000000 in
set_option maxRecDepth 100000 in
theorem makeR_any (s t : Txt) (w : World) (hsl : s.length ≤ 400) (htl : t.length ≤ 400) :
    Calls Tryz.prog 134 #[txt s, txt t] w (ResP (makeR s t) w) := by
  have HIS := Lib.hid (fun W => integerR_any s W hsl)
  have HIT := Lib.hid (fun W => integerR_any t W htl)
  by_cases hs : intE s = 0
  · rw [hs] at HIS
    by_cases ht : intE t = 0
    · rw [ht] at HIT
      by_cases h0 : t = [48]
      · have HR := Lib.hid (make_z hs ht h0)
        have hz : (t == [48]) = true := by rw [h0]; rfl
        clear h0 hs ht
        unfold ResP
        rw [HR.out]
        go_enter Tryz.func134, Tryz.ntmps134
        go_wp2_with (go_at_call 100; first | (with_reducible refine (HIS.out _).mono ?_; rintro e w' ⟨rfl, rfl⟩) | (with_reducible refine (HIT.out _).mono ?_; rintro e w' ⟨rfl, rfl⟩))
        go_ret2
        exact ⟨rfl, extA⟩
      · have HR := Lib.hid (make_num hs ht h0)
        have hz : (t == [48]) = false := by rw [beq_eq_false_iff_ne]; exact h0
        obtain ⟨c1, g1, n1, p1⟩ := int_head hs
        obtain ⟨c2, g2, n2, p2⟩ := int_head ht
        obtain ⟨k1, _, k3⟩ := intE_ok hs
        obtain ⟨k4, _, k6⟩ := intE_ok ht
        have HBS := Lib.hid (fun W => bareR_any s W hsl)
        have HBT := Lib.hid (fun W => bareR_any t W htl)
        have HRS := Lib.hid (fun W => readR_any (bareS s) W k1.1 (by omega))
        have HRT := Lib.hid (fun W => readR_any (bareS t) W k4.1 (by omega))
        have HL1 := Lib.hid (len_dec k1.1 k3)
        have HL2 := Lib.hid (len_dec k4.1 k6)
        have hi1 : (0 : Int) < (s.length : Int) := by omega
        have hi2 : (0 : Int) < (t.length : Int) := by omega
        have hTT : True := trivial
        clear h0 hs ht k1 k3 k4 k6
        unfold ResP
        rw [HR.out.1]
        generalize bareS s = bs at *
        generalize bareS t = bt at *
        generalize decV bs = x at *
        generalize decV bt = y at *
        generalize negS s = sn at *
        generalize negS t = tn at *
        go_enter Tryz.func134, Tryz.ntmps134
        go_wp2_with (go_at_call 100; first | (with_reducible refine (HIS.out _).mono ?_; rintro e w' ⟨rfl, rfl⟩) | (with_reducible refine (HIT.out _).mono ?_; rintro e w' ⟨rfl, rfl⟩))
        have hdr : Ext w' w'.drew := extA
        refine wp_region_heldE 99 (fun _ => True) (by kernel_rfl) ?_
        generalize w'.drew = W1 at hdr ⊢
        have E := hdr
        clear hdr
        ((refine eTk 0 ?_); (refine eTk 1 ?_); (refine eTk 2 ?_); (refine eTk 3 ?_); (refine eTk 4 ?_); (refine eTk 5 ?_); (refine eTk 6 ?_); (refine eTk 7 ?_); (refine eTk 10 ?_))
        (refine wpAnyE_one (i := 8) (o := ?_) ?_ (by kernel_rfl) (fun K hK => ?_); rotate_left; (focus ((simp only [List.getElem?_toArray, List.getElem?_cons_succ, List.getElem?_cons_zero]; exact rfl))); go_simp; go_at_call 105; refine (HBS.out _).mono ?_; rintro e w' ⟨rfl, rfl⟩; go_wp2_with fail; refine hK.out _ _ ?_ (fun hHeld => ?_); rotate_left; clear hK K; (try simp only [Act.put, List.setIfInBounds_toArray, List.set_cons_zero, List.set_cons_succ]))
        rotate_left
        · trivial
        clear hHeld
        (refine wpAnyE_one (i := 9) (o := ?_) ?_ (by kernel_rfl) (fun K hK => ?_); rotate_left; (focus ((simp only [List.getElem?_toArray, List.getElem?_cons_succ, List.getElem?_cons_zero]; exact rfl))); go_simp; go_at_call 104; refine (HRS.out _).mono ?_; rintro e w5 ⟨v5, rfl, o5, n5, e5⟩; obtain ⟨a5, c5, rfl, oc5, _, _⟩ := o5.reads; go_wp2_with fail; refine hK.out _ _ ?_ (fun hHeld => ?_); rotate_left; clear hK K; (try simp only [Act.put, List.setIfInBounds_toArray, List.set_cons_zero, List.set_cons_succ]))
        rotate_left
        · trivial
        replace E := E.trans e5
        have C5 := Lib.hid oc5
        clear hHeld o5 n5 e5 oc5
        (refine wpAnyE_one (i := 11) (o := ?_) ?_ (by kernel_rfl) (fun K hK => ?_); rotate_left; (focus ((simp only [List.getElem?_toArray, List.getElem?_cons_succ, List.getElem?_cons_zero]; exact rfl))); go_simp; go_at_call 105; refine (HBT.out _).mono ?_; rintro e w' ⟨rfl, rfl⟩; go_wp2_with fail; refine hK.out _ _ ?_ (fun hHeld => ?_); rotate_left; clear hK K; (try simp only [Act.put, List.setIfInBounds_toArray, List.set_cons_zero, List.set_cons_succ]))
        rotate_left
        · trivial
        clear hHeld
        (refine wpAnyE_one (i := 12) (o := ?_) ?_ (by kernel_rfl) (fun K hK => ?_); rotate_left; (focus ((simp only [List.getElem?_toArray, List.getElem?_cons_succ, List.getElem?_cons_zero]; exact rfl))); go_simp; go_at_call 104; refine (HRT.out _).mono ?_; rintro e w6 ⟨v6, rfl, o6, n6, e6⟩; obtain ⟨a6, c6, rfl, oc6, _, _⟩ := o6.reads; go_wp2_with fail; refine hK.out _ _ ?_ (fun hHeld => ?_); rotate_left; clear hK K; (try simp only [Act.put, List.setIfInBounds_toArray, List.set_cons_zero, List.set_cons_succ]))
        rotate_left
        · trivial
        replace E := E.trans e6
        have C6 := Lib.hid oc6
        replace C5 := Lib.hid (C5.out.ext e6)
        clear hHeld o6 n6 e6 oc6
        (refine ePu 13 ?_)
        (refine wpAnyE_one (i := 14) (o := ?_) ?_ (by kernel_rfl) (fun K hK => ?_); rotate_left; (focus ((simp only [List.getElem?_toArray, List.getElem?_cons_succ, List.getElem?_cons_zero]; exact rfl))); go_simp; go_at_call 116; refine (madeR_any (sn != tn) x y _ w6 ⟨a5, c5, a6, c6, rfl, C5.out, C6.out⟩ HR.out.2 (Nat.le_trans HL1.out (by omega)) (Nat.le_trans HL2.out (by omega))).mono ?_; rintro e w7 ⟨rfl, e7⟩; go_wp2_with fail; refine hK.out _ _ ?_ (fun hHeld => ?_); rotate_left; clear hK K; (try simp only [Act.put, List.setIfInBounds_toArray, List.set_cons_zero, List.set_cons_succ]))
        rotate_left
        · trivial
        replace E := E.trans e7
        clear hHeld e7
        ((refine ePu 15 ?_); (refine ePu 16 ?_); (refine ePu 17 ?_); (refine ePu 18 ?_))
        refine wpAnyE_done (by kernel_rfl) ?_ _
        go_wp2_with fail
        go_ret2
        exact ⟨rfl, E⟩
    · have HR := Lib.hid (make_e2 hs ht)
      have h2 : ((intE t : Int) != 0) = true := by rw [bne_iff_ne]; omega
      clear hs ht
      unfold ResP
      rw [HR.out]
      generalize intE t = q at *
      go_enter Tryz.func134, Tryz.ntmps134
      go_wp2_with (go_at_call 100; first | (with_reducible refine (HIS.out _).mono ?_; rintro e w' ⟨rfl, rfl⟩) | (with_reducible refine (HIT.out _).mono ?_; rintro e w' ⟨rfl, rfl⟩))
      go_ret2
      exact ⟨rfl, extA⟩
  · have HR := Lib.hid (make_e1 (t := t) hs)
    have h2 : ((intE s : Int) != 0) = true := by rw [bne_iff_ne]; omega
    clear hs
    unfold ResP
    rw [HR.out]
    generalize intE s = p at *
    go_enter Tryz.func134, Tryz.ntmps134
    go_wp2_with (go_at_call 100; (with_reducible refine (HIS.out _).mono ?_; rintro e w' ⟨rfl, rfl⟩))
    go_ret2
    exact ⟨rfl, extA⟩
end Go.Proofs.YtdejgaiocjfhjaaGreatDoor
namespace Go.Proofs.YtdejgaiocjfhjaaGreatDoor
open Go.RowKit
set_option maxHeartbeats 4000000 in
set_option maxRecDepth 100000 in
theorem longR_any (x : Nat) (hx : x < 9223372036854775808) (w : World) :
    Calls Tryz.prog 137 #[.int .i64 (x : Int)] w (OwnNPost .i64 3 (toB 1000000 x) w) := by
  obtain ⟨i0, hi, hi0, hi1, hi2⟩ := info_parts infoI64
  have hlen : (toB 1000000 x).length ≤ 4 := toB_len (by omega) 4 (by omega)
  obtain ⟨l, hl⟩ : ∃ l, l = toB 1000000 x := ⟨_, rfl⟩
  rw [← hl] at hlen ⊢
  have HL := Lib.hid hl
  clear hl
  go_enter Tryz.func137, Tryz.ntmps137
  go_wp2
  go_loopw [0, 3] (fun n v wr => ∃ (j m : Nat) (vv : Value), n = .int .i64 (m : Int) ∧ v = vv ∧ m < 9223372036854775808 ∧ Hid (m = x / 1000000 ^ j) ∧ j ≤ l.length ∧ Hid (OwnsN .i64 3 wr vv (l.take j)) ∧ Hid (∀ b, vv.ownBlock = some b → w.heap.size ≤ b) ∧ Ext w wr) (fun n _ _ => (intOf n).toNat)
  case atStart => exact ⟨0, x, _, rfl, rfl, hx, by show _ = _; simp, Nat.zero_le _, OwnsN.nil _ _ _, (fun b hb => by cases hb), Ext.refl _⟩
  case round =>
    obtain ⟨j, m, vv, rfl, hvv, hm, hmx, hj, HO, HN, he⟩ := hrel
    obtain rfl := hvv.symm
    by_cases h0 : m = 0
    · have HF : Hid (l.take j = l) := by
        have h1 : ¬ j < l.length := fun h => by
          rw [HL.out] at h
          exact (len_toB (by omega) j x).1 h (by rw [← hmx.out]; exact h0)
        show _ = _
        exact List.take_of_length_le (by omega)
      subst h0
      clear hmx
      go_wp2
      go_ret
      exact ⟨_, rfl, by rw [HF.out] at HO; exact HO.out, HN.out, he⟩
    · have hjl : j < l.length := by
        rw [HL.out]
        exact (len_toB (by omega) j x).2 (by rw [← hmx.out]; exact h0)
      obtain ⟨r, hr⟩ : ∃ r, r = m % 1000000 := ⟨_, rfl⟩
      obtain ⟨d, hd⟩ : ∃ d, d = m / 1000000 := ⟨_, rfl⟩
      have HR : Hid (l.take (j + 1) = l.take j ++ [r]) := by
        show _ = _
        have e : l.getD j 0 = x / 1000000 ^ j % 1000000 := by rw [HL.out]; exact getD_toB (by omega) j x
        rw [take_last hjl, hr, hmx.out, e]
      have HD : Hid (d = x / 1000000 ^ (j + 1)) := by
        show _ = _
        rw [hd, hmx.out, Nat.div_div_eq_div_mul, Nat.pow_succ]
      have ht1 : (m : Int).tmod 1000000 = (r : Int) := by rw [Int.tmod_eq_emod_of_nonneg (by omega)]; omega
      have ht2 : (m : Int).tdiv 1000000 = (d : Int) := by rw [Int.tdiv_eq_ediv_of_nonneg (by omega)]; omega
      have hw4 : IntKind.i64.wrap (d : Int) = (d : Int) := by rw [IntKind.wrap_i64]; omega
      have hdm : d < m := by omega
      have hm0 : (0 : Int) < (m : Int) := by omega
      have hlt : (l.take j).length ≤ 4 := by rw [List.length_take]; omega
      generalize l.take j = o at HO HR hlt
      clear hr hd hmx h0
      go_wp2_with (at_builtin; refine wpList_append1 _ rfl _ _ 128 rfl 3 i0 (.int .i64 0) 1 8 Tryz.underlying128 hi hi0 hi1 hi2 rfl (by decide) vv o.length (natsV .i64 o) rfl (HO.out.ext ((Ext.refl _).alloc _)) ⟨wr.heap.size, 0, none⟩ 1 1 (by decide) [.int .i64 (r : Int)] rfl rfl (cells_one _ _ _) (by intro u hu; simp at hu; subst hu; rfl) (by unfold maxLen; omega) (by omega) ?_)
      all_goals
        intro v' w5 hown5 hend5
        have OB5 : Hid (∀ b, v'.ownBlock = some b → w.heap.size ≤ b) := hend5.ge (n := w.heap.size) (by have := he.size; simp; omega) HN.out
        have O5 : Hid (OwnsN .i64 3 w5 v' (l.take (j + 1))) := by show OwnsN _ _ _ _ _; rw [HR.out]; exact ownsN_succ hown5
        have B5 : Ext w w5 := (he.trans ((Ext.refl _).alloc _)).trans' (hend5.below (n := w.heap.size) (by have := he.size; simp; omega) HN.out) (Nat.le_refl _)
        clear hown5 hend5 HO
        go_wp2
        refine ⟨⟨j + 1, d, v', by go_num, rfl, by omega, HD, by omega, O5, OB5, B5⟩, by simp [intOf]; omega⟩
end Go.Proofs.YtdejgaiocjfhjaaGreatDoor
namespace Go.Proofs.YtdejgaiocjfhjaaGreatDoor
open Go.RowKit
open Go.Lib (decDigits itoa)
theorem dec_len19 {n : Nat} (h : n ≤ 9223372036854775808) : (decDigits n).length ≤ 19 := (digits_len_le n 19 (by omega)).2 (by omega)
theorem itoa_len {n : Int} (h1 : -9223372036854775808 ≤ n) (h2 : n ≤ 9223372036854775807) : (itoa n).length ≤ 20 := by
  rw [itoa_eq]
  have := dec_len19 (n := n.natAbs) (by omega)
  split
  · rw [List.length_cons]; omega
  · omega
set_option maxHeartbeats 4000000 in
set_option maxRecDepth 100000 in
theorem textI_any (n : Int) (w : World) (h1 : -9223372036854775808 ≤ n) (h2 : n ≤ 9223372036854775807) :
    Calls Tryz.prog 98 #[.int .i64 n] w fun e w' => e = .returned (txt (itoa n)) ∧ Ext w w' := by
  by_cases hn : n < 0
  · have hit : itoa n = 45 :: decDigits n.natAbs := by rw [itoa_eq, if_pos hn]
    obtain ⟨x, hx⟩ : ∃ x : Nat, x = (-(n + 1)).natAbs := ⟨_, rfl⟩
    have hxn : n.natAbs = x + 1 := by omega
    have hw1 : IntKind.i64.wrap (n + 1) = n + 1 := by rw [IntKind.wrap_i64]; omega
    have hw2 : IntKind.i64.wrap (-(n + 1)) = (x : Int) := by rw [IntKind.wrap_i64]; omega
    have hw3 : -(n + 1) = (x : Int) := by omega
    have hw4 : IntKind.i64.wrap (x : Int) = (x : Int) := by rw [IntKind.wrap_i64]; omega
    have hl1 : (toB 1000000 x).length ≤ 100 := Nat.le_trans (toB_len (by omega) 4 (by omega)) (by omega)
    have hl2 : (toB 1000000 (x + 1)).length ≤ 110 := Nat.le_trans (toB_len (by omega) 4 (by omega)) (by omega)
    have HL := Lib.hid (fun W => longR_any x (by omega) W)
    have hdl := dec_len19 (n := x + 1) (by omega)
    have H1 : Hid ([1] = toB 1000000 1) := (toB_one (by omega) (by omega) (by omega)).symm
    have happ := app_txt [45] (decDigits (x + 1))
    have hcat : ¬ 9223372036854775807 < 1 + (decDigits (x + 1)).length := by omega
    have HD := Lib.hid (fun W a c (h : CellsN .i64 W a (toB 1000000 (x + 1))) => digitsR_any (x + 1) _ a c W rfl hl2 h)
    rw [hit, hxn]
    clear hx hxn hit
    generalize decDigits (x + 1) = D at *
    go_enter Tryz.func98, Tryz.ntmps98
    go_wp2_with (go_at_call 137; refine (HL.out _).mono ?_; rintro e w5 ⟨v5, rfl, o5, n5, e5⟩)
    obtain ⟨a5, c5, rfl, oc5, _, _⟩ := o5.reads
    have C5 := Lib.hid (oc5.ext ((Ext.refl w5).alloc (.cells #[.int .i64 (1 : Nat)] 3)))
    clear o5 n5 oc5
    go_wp2_with (go_at_call 136; refine (plusR_any x 1 _ [1] a5 _ c5 1 _ rfl H1.out (by omega) (by simp) C5.out (cells_one' 1 w5)).mono ?_; rintro e w6 ⟨v6, rfl, o6, n6, e6⟩)
    obtain ⟨a6, c6, rfl, oc6, _, _⟩ := o6.reads
    have E6 : Ext w w6 := (e5.trans ((Ext.refl _).alloc _)).trans e6
    have HT := Lib.hid (HD.out w6 a6 c6 oc6)
    clear o6 n6 oc6 e6 e5 C5
    go_wp2_with ((go_at_call 135; (with_reducible refine (HT.out).mono ?_); rintro e w1 ⟨rfl, hE⟩))
    go_ret
    exact ⟨rfl, E6.trans hE⟩
  · have hit : itoa n = decDigits n.natAbs := by rw [itoa_eq, if_neg hn]
    obtain ⟨x, rfl⟩ : ∃ x : Nat, n = (x : Int) := ⟨n.toNat, by omega⟩
    have hl2 : (toB 1000000 x).length ≤ 110 := Nat.le_trans (toB_len (by omega) 4 (by omega)) (by omega)
    have HL := Lib.hid (fun W => longR_any x (by omega) W)
    have HD := Lib.hid (fun W a c (h : CellsN .i64 W a (toB 1000000 x)) => digitsR_any x _ a c W rfl hl2 h)
    rw [hit, Int.natAbs_natCast]
    clear hit
    go_enter Tryz.func98, Tryz.ntmps98
    go_wp2_with (go_at_call 137; refine (HL.out _).mono ?_; rintro e w5 ⟨v5, rfl, o5, n5, e5⟩)
    obtain ⟨a5, c5, rfl, oc5, _, _⟩ := o5.reads
    have HT := Lib.hid (HD.out w5 a5 c5 oc5)
    clear o5 n5 oc5
    go_wp2_with ((go_at_call 135; (with_reducible refine (HT.out).mono ?_); rintro e w1 ⟨rfl, hE⟩))
    go_ret
    exact ⟨rfl, e5.trans hE⟩
set_option maxHeartbeats 4000000 in
theorem ofR_any (m n : Int) (w : World) (h1 : -9223372036854775808 ≤ m) (h2 : m ≤ 9223372036854775807) (h3 : -9223372036854775808 ≤ n) (h4 : n ≤ 9223372036854775807) :
    Calls Tryz.prog 97 #[.int .i64 m, .int .i64 n] w (ResP (makeR (itoa m) (itoa n)) w) := by
  have HM := Lib.hid (fun W => textI_any m W h1 h2)
  have HN := Lib.hid (fun W => textI_any n W h3 h4)
  have l1 := itoa_len h1 h2
  have l2 := itoa_len h3 h4
  have HK := Lib.hid (fun W => makeR_any (itoa m) (itoa n) W (by omega) (by omega))
  go_enter Tryz.func97, Tryz.ntmps97
  go_wp2_with (go_at_call 98; have hh := HM; clear HM; refine (hh.out _).mono ?_; clear hh; rintro e w5 ⟨rfl, e5⟩)
  go_wp2_with (go_at_call 98; refine (HN.out _).mono ?_; rintro e w6 ⟨rfl, e6⟩)
  have E6 := e5.trans e6
  clear e5 e6
  go_wp2_with (go_at_call 134; refine (HK.out _).mono ?_; rintro e w7 ⟨rfl, e7⟩)
  go_ret2
  exact ⟨rfl, E6.trans e7⟩
end Go.Proofs.YtdejgaiocjfhjaaGreatDoor
namespace Go.Proofs.YtdejgaiocjfhjaaGreatDoor
open Go.RowKit
open Go.Lib (decDigits itoa)
theorem intE_form {s : Txt} (h : ¬ IntS s) : intE s = 3 := by unfold intE; rw [if_pos h]
theorem intE_long {s : Txt} (h : IntS s) (k : 60 < (bareS s).length) : intE s = 11 := by unfold intE; rw [if_neg (not_not_intro h), if_pos k]
theorem intE_short {s : Txt} (h : IntS s) (k : ¬ 60 < (bareS s).length) : intE s = 0 := by unfold intE; rw [if_neg (not_not_intro h), if_neg k]
theorem len_decP {s : Txt} (h : DigitL s) (hl : s.length ≤ 60) : (toB 1000000000 (decV s)).length ≤ 40 :=
  Nat.le_trans (toB_len (by omega) 7 (Nat.lt_of_lt_of_le (decV_lt h) (Nat.le_trans (Nat.pow_le_pow_right (by omega) hl) (by decide)))) (by omega)
set_option maxHeartbeats 8000000 in
set_option maxRecDepth 100000 in
theorem make_any (s t : Txt) (w : World) (hG : Glob w) (hsl : s.length ≤ 400) (htl : t.length ≤ 400) :
    Calls Tryz.prog 95 #[txt s, txt t] w (ResP (makeR s t) w) := by
  have HG := Lib.hid hG
  clear hG
  have HI : Hid (∀ x : Txt, x.length ≤ 400 → ∀ W, Calls Tryz.prog 128 #[txt x] W fun e w' => e = .returned (.bool (decide (IntS x))) ∧ Ext W w') := fun x hx W => integer_any x W (by omega)
  have HLG : Hid (∀ x : Txt, ∀ W, Calls Tryz.prog 129 #[txt x] W fun e w' => e = .returned (.bool (decide (60 < (bareS x).length))) ∧ Ext W w') := fun x W => long_any x W
  obtain ⟨R, hR⟩ : ∃ R, R = makeR s t := ⟨_, rfl⟩
  unfold ResP
  rw [← hR]
  have HR := Lib.hid hR
  clear hR
  have E0 : Ext w (w.alloc (.cells #[txt s, txt t] 9)) := extA
  have a0 : (w.alloc (.cells #[txt s, txt t] 9)).cell? ⟨w.heap.size, 0, none⟩ = some (txt s) := by go_simp
  have a1 : (w.alloc (.cells #[txt s, txt t] 9)).cell? ⟨w.heap.size, 1, none⟩ = some (txt t) := by go_simp
  go_enter Tryz.func95, Tryz.ntmps95
  go_wp2_with fail
  generalize (w.alloc (.cells #[txt s, txt t] 9)) = W at E0 a0 a1 ⊢
  go_loopw [15] (fun i wr => ∃ k : Nat, k ≤ 2 ∧ i = .int .i64 k ∧ Hid ((1 ≤ k → intE s = 0) ∧ (2 ≤ k → intE t = 0)) ∧ Ext W wr) (fun i _ => 2 - (intOf i).toNat)
  case atStart => exact ⟨0, by omega, rfl, ⟨fun h => by omega, fun h => by omega⟩, Ext.refl _⟩
  case round =>
    obtain ⟨k, hk, rfl, hin, he⟩ := hrel
    replace a0 := he.cell a0
    replace a1 := he.cell a1
    have E1 := E0.trans he
    by_cases hk2 : k < 2
    · obtain ⟨x, hx, hxl, hxc, hxe⟩ : ∃ x, (k = 0 ∧ x = s ∨ k = 1 ∧ x = t) ∧ x.length ≤ 400 ∧ wr.cell? ⟨w.heap.size, k, none⟩ = some (txt x) ∧ (intE x ≠ 0 → R = ([], intE x)) := by
        rcases k with _ | _ | k
        · exact ⟨s, .inl ⟨rfl, rfl⟩, hsl, a0, fun h => by rw [HR.out, make_e1 h]⟩
        · exact ⟨t, .inr ⟨rfl, rfl⟩, htl, a1, fun h => by rw [HR.out, make_e2 (hin.out.1 (by omega)) h]⟩
        · omega
      have HXE := Lib.hid hxe
      have HX := Lib.hid hx
      clear a0 a1 hxe hx
      by_cases h1 : IntS x
      · have HI1 := Lib.hid (HI.out x hxl)
        rw [decide_eq_true h1] at HI1
        by_cases h2 : 60 < (bareS x).length
        · have HL1 := Lib.hid (HLG.out x)
          rw [decide_eq_true h2] at HL1
          have HE := Lib.hid (HXE.out (by rw [intE_long h1 h2]; omega))
          rw [intE_long h1 h2] at HE
          clear h1 h2 HXE HX hin
          go_wp2_with (first
            | ((go_at_call 128; (with_reducible refine (HI1.out _).mono ?_); rintro e w1 ⟨rfl, hE⟩); replace E1 := E1.trans hE; clear hE)
            | ((go_at_call 129; (with_reducible refine (HL1.out _).mono ?_); rintro e w1 ⟨rfl, hE⟩); replace E1 := E1.trans hE; clear hE))
          go_ret2
          rw [HE.out]
          exact ⟨rfl, E1⟩
        · have HL1 := Lib.hid (HLG.out x)
          rw [decide_eq_false h2] at HL1
          have hin2 : Hid ((1 ≤ k + 1 → intE s = 0) ∧ (2 ≤ k + 1 → intE t = 0)) := by
            have h3 := intE_short h1 h2
            rcases HX.out with ⟨h4, h5⟩ | ⟨h4, h5⟩
            · rw [h5] at h3
              exact ⟨fun _ => h3, fun h => by omega⟩
            · rw [h5] at h3
              exact ⟨fun _ => hin.out.1 (by omega), fun _ => h3⟩
          clear h1 h2 HXE HX hin
          go_wp2_with (first
            | ((go_at_call 128; (with_reducible refine (HI1.out _).mono ?_); rintro e w1 ⟨rfl, hE⟩); replace he := he.trans hE; clear hE)
            | ((go_at_call 129; (with_reducible refine (HL1.out _).mono ?_); rintro e w1 ⟨rfl, hE⟩); replace he := he.trans hE; clear hE))
          refine ⟨⟨k + 1, by omega, by go_num, hin2, he⟩, by simp [intOf]; omega⟩
      · have HI1 := Lib.hid (HI.out x hxl)
        rw [decide_eq_false h1] at HI1
        have HE := Lib.hid (HXE.out (by rw [intE_form h1]; omega))
        rw [intE_form h1] at HE
        clear h1 HXE HX hin
        go_wp2_with ((go_at_call 128; (with_reducible refine (HI1.out _).mono ?_); rintro e w1 ⟨rfl, hE⟩); replace E1 := E1.trans hE; clear hE)
        go_ret2
        rw [HE.out]
        exact ⟨rfl, E1⟩
    · have hs := hin.out.1 (by omega)
      have ht := hin.out.2 (by omega)
      clear hin a0 a1 HI HLG
      by_cases h0 : t = [48]
      · have HE : Hid (R = ([], 10)) := by show _ = _; rw [HR.out, make_z hs ht h0]
        have hz : (t == [48]) = true := by rw [h0]; rfl
        clear h0 hs ht
        go_wp2
        go_ret2
        rw [HE.out]
        exact ⟨rfl, E1⟩
      · obtain ⟨m1, m2⟩ := make_num hs ht h0
        have HE : Hid (R = resQ (numQ (negS s != negS t) (decV (bareS s)) (decV (bareS t)))) := by show _ = _; rw [HR.out, m1]
        have hz : (t == [48]) = false := by rw [beq_eq_false_iff_ne]; exact h0
        obtain ⟨k1, _, k3⟩ := intE_ok hs
        obtain ⟨k4, _, k6⟩ := intE_ok ht
        have HSS := Lib.hid (fun W => signed_any s W k1.1 (by omega))
        have HST := Lib.hid (fun W => signed_any t W k4.1 (by omega))
        have HL1 := Lib.hid (len_decP k1.1 k3)
        have HL2 := Lib.hid (len_decP k4.1 k6)
        have HM2 := Lib.hid m2
        clear h0 hs ht m1 m2 k1 k3 k4 k6
        generalize decV (bareS s) = x at *
        generalize decV (bareS t) = y at *
        generalize negS s = sn at *
        generalize negS t = tn at *
        have EA : Ext wr (wr.alloc (.cells #[.bool false, .slice none 0 0, .slice none 0 0] 116)) := extA
        have N : Num3 wr.heap.size (wr.alloc (.cells #[.bool false, .slice none 0 0, .slice none 0 0] 116)) (.bool false) (.slice none 0 0) (.slice none 0 0) := ⟨by go_simp, by go_simp, by go_simp, by go_simp, by go_simp, by go_simp⟩
        have hnw : w.heap.size ≤ wr.heap.size := E1.size
        replace E1 := E1.trans EA
        go_wp2_with fail
        generalize hnb : wr.heap.size = nb at N hnw ⊢
        generalize hW1 : wr.alloc (.cells #[.bool false, .slice none 0 0, .slice none 0 0] 116) = W1 at E1 N ⊢
        clear EA hW1 hnb he
        have hnl : nb < W1.heap.size := cell_lt N.c0
        refine (HSS.out _).mono ?_
        rintro e w5 ⟨a5, c5, rfl, oc5, n5, e5⟩
        replace N := N.ext e5
        replace E1 := E1.trans e5
        have HN5 : Hid (∀ p, a5 = some p → p.block ≠ nb) := fun p hp => by have := n5 p hp; omega
        have C5 := Lib.hid (CellsN.set2 (c := nb) (o := 1) (v := .slice a5 (toB 1000000000 x).length c5) (CellsN.set2 (c := nb) (o := 0) (v := .bool sn) oc5 (fun _ => HN5.out)) (fun _ => HN5.out))
        have E2 : Ext w ((w5.setCell ⟨nb, 0, none⟩ (.bool sn)).setCell ⟨nb, 1, none⟩ (.slice a5 (toB 1000000000 x).length c5)) := (E1.set hnw _).set hnw _
        have N2 := (N.set0 (.bool sn)).set1 (.slice a5 (toB 1000000000 x).length c5)
        obtain ⟨x0, x1, x2, g0, g1, g2⟩ := N
        clear oc5 n5 e5 E1 hnl HSS
        go_wp2_with fail
        generalize (w5.setCell ⟨nb, 0, none⟩ (.bool sn)).setCell ⟨nb, 1, none⟩ (.slice a5 (toB 1000000000 x).length c5) = W2 at C5 E2 N2 ⊢
        clear x0 x1 x2 g0 g1 g2
        have hnl : nb < W2.heap.size := cell_lt N2.c0
        refine (HST.out _).mono ?_
        rintro e w6 ⟨a6, c6, rfl, oc6, n6, e6⟩
        replace N2 := N2.ext e6
        replace E2 := E2.trans e6
        have HN6 : Hid (∀ p, a6 = some p → p.block ≠ nb) := fun p hp => by have := n6 p hp; omega
        have C6 := Lib.hid (CellsN.set2 (c := nb) (o := 2) (v := .slice a6 (toB 1000000000 y).length c6) (CellsN.set2 (c := nb) (o := 0) (v := .bool (sn != tn)) oc6 (fun _ => HN6.out)) (fun _ => HN6.out))
        replace C5 := Lib.hid (CellsN.set2 (c := nb) (o := 2) (v := .slice a6 (toB 1000000000 y).length c6) (CellsN.set2 (c := nb) (o := 0) (v := .bool (sn != tn)) (C5.out.ext e6) (fun _ => HN5.out)) (fun _ => HN5.out))
        have E3 : Ext w ((w6.setCell ⟨nb, 0, none⟩ (.bool (sn != tn))).setCell ⟨nb, 2, none⟩ (.slice a6 (toB 1000000000 y).length c6)) := (E2.set hnw _).set hnw _
        have N3 := (N2.set0 (.bool (sn != tn))).set2 (.slice a6 (toB 1000000000 y).length c6)
        obtain ⟨x0, x1, x2, g0, g1, g2⟩ := N2
        clear oc6 n6 e6 E2 hnl HST
        go_wp2_with fail
        have HW := Lib.hid (written_any (sn != tn) x y _ _ ⟨a5, c5, a6, c6, rfl, C5.out, C6.out⟩ HM2.out (HG.out.ext E3) (Nat.le_trans HL1.out (by omega)) (Nat.le_trans HL2.out (by omega)))
        refine HW.out.mono ?_
        rintro e w8 ⟨rfl, e8⟩
        have E8 := E3.trans e8
        clear HW e8 E3 N3 C5 C6 x0 x1 x2 g0 g1 g2
        go_wp2_with fail
        go_ret2
        rw [HE.out]
        exact ⟨rfl, E8⟩
set_option maxHeartbeats 4000000 in
theorem of_any (m n : Int) (w : World) (hG : Glob w) (h1 : -9223372036854775808 ≤ m) (h2 : m ≤ 9223372036854775807) (h3 : -9223372036854775808 ≤ n) (h4 : n ≤ 9223372036854775807) :
    Calls Tryz.prog 53 #[.int .i64 m, .int .i64 n] w (ResP (makeR (itoa m) (itoa n)) w) := by
  have HG := Lib.hid hG
  have HM := Lib.hid (Itoa_any m w h1 h2 hG.tab)
  have HN : Hid (∀ W, Ext w W → Calls Tryz.prog 96 #[.int .i64 n] W fun e w' => e = .returned (txt (itoa n)) ∧ Ext W w') := fun W hW => Itoa_any n W h3 h4 (hG.ext hW).tab
  have l1 := itoa_len h1 h2
  have l2 := itoa_len h3 h4
  have HK : Hid (∀ W, Ext w W → Calls Tryz.prog 95 #[txt (itoa m), txt (itoa n)] W (ResP (makeR (itoa m) (itoa n)) W)) := fun W hW => make_any (itoa m) (itoa n) W (hG.ext hW) (by omega) (by omega)
  clear hG
  go_enter Tryz.func53, Tryz.ntmps53
  go_wp2_with (go_at_call 96; have hh := HM; clear HM; refine hh.out.mono ?_; clear hh; rintro e w5 ⟨rfl, e5⟩)
  go_wp2_with (go_at_call 96; refine (HN.out _ e5).mono ?_; rintro e w6 ⟨rfl, e6⟩)
  have E6 := e5.trans e6
  clear e5 e6
  go_wp2_with (go_at_call 95; refine (HK.out _ E6).mono ?_; rintro e w7 ⟨rfl, e7⟩)
  go_ret2
  exact ⟨rfl, E6.trans e7⟩
end Go.Proofs.YtdejgaiocjfhjaaGreatDoor
namespace Go.Proofs.YtdejgaiocjfhjaaGreatDoor
open Go.RowKit
open Go.Lib (decDigits itoa)
theorem dec_len60 {n : Nat} (h : n < 10 ^ 60) : (decDigits n).length ≤ 60 := (digits_len_le n 60 (by omega)).2 h
theorem fracT_len {q : Rat} (h : FitQ q) : (fracT q).length ≤ 122 := by
  unfold fracT
  have h1 := dec_len60 h.1
  have h2 := dec_len60 h.2
  rw [List.length_append, itoa_eq]
  have h3 : (if q.num < 0 then 45 :: decDigits q.num.natAbs else decDigits q.num.natAbs).length ≤ 61 := by
    split
    · rw [List.length_cons]; omega
    · omega
  have h4 : (if q.den = 1 then [] else 47 :: decDigits q.den).length ≤ 61 := by
    split
    · simp
    · rw [List.length_cons]; omega
  omega
theorem madeT_len (q : Rat) : (madeT q).length ≤ 122 := by
  unfold madeT
  split
  · rename_i h; exact fracT_len h
  · simp
theorem made_wrong4 {q : Rat} (h : ¬ FitQ q) : madeT q = [] ∧ madeE q = 11 := by
  unfold madeT madeE
  rw [if_neg h, if_neg h]
  exact ⟨rfl, rfl⟩
end Go.Proofs.YtdejgaiocjfhjaaGreatDoor
namespace Go.Proofs.YtdejgaiocjfhjaaGreatDoor
open Go.RowKit
open Go.Lib (decDigits itoa)
theorem op_is {a b c : Txt} {q : Rat} (ha : fracE a = 0) (hb : fracE b = 0) (h : fracE c = 0) (e : fracQ c = q) : ifOk (bothE a b) badR (resQ q) = (c, 0) := by
  unfold ifOk
  rw [if_pos (bothE_zero ha hb)]
  exact made_is h e
end Go.Proofs.YtdejgaiocjfhjaaGreatDoor
namespace Go.Proofs.YtdejgaiocjfhjaaGreatDoor
open Go.RowKit Go.ChangeShapes Go.WideShapes Go.Joins Go.Deep
section
variable {H : Type} {enc : TypeId × Value → H} {w : World} {base : Nat} {spare : Nat → Bool} {held : Bool}
theorem byte_bd {n : Int} (h : (Lit.int .u8 n).wf = true) : ∃ k : Nat, n = (k : Int) ∧ k ≤ 255 := by
  simp only [Lit.wf, Bool.and_eq_true, decide_eq_true_eq] at h
  have h1 : IntKind.u8.min = 0 := by decide
  have h2 : IntKind.u8.max = 255 := by decide
  rw [h1, h2] at h
  exact ⟨n.toNat, by omega, by omega⟩
end
end Go.Proofs.YtdejgaiocjfhjaaGreatDoor
namespace Go.Proofs.YtdejgaiocjfhjaaGreatDoor
open Go.RowKit
open Go.Lib (decDigits itoa)
theorem getD_txt {l : List Txt} {k : Nat} (h : k < l.length) : l.getD k [] = l[k] := by simp [List.getD, h]
theorem drop_txt {l : List Txt} {k : Nat} (h : k < l.length) : l.drop k = l.getD k [] :: l.drop (k + 1) := by
  rw [List.drop_eq_getElem_cons h, getD_txt h]
theorem mem_txt {l : List Txt} {k : Nat} (h : k < l.length) : l.getD k [] ∈ l := by
  rw [getD_txt h]; exact List.getElem_mem h
theorem firstE_drop {l : List Txt} {k : Nat} (h : k < l.length) : firstE (l.drop k) = if fracE (l.getD k []) = 0 then firstE (l.drop (k + 1)) else fracE (l.getD k []) := by
  rw [drop_txt h]; rfl
theorem addS_bad {o x : Txt} (h : (addS o x).2 ≠ 0) : addS o x = ([], (addS o x).2) := by
  unfold addS ifOk badR at *
  by_cases e : bothE o x = 0
  · rw [if_pos e] at h ⊢
    unfold resQ at *
    by_cases f : FitQ (fracQ o + fracQ x)
    · exact absurd (made_right4 f).2.1 h
    · rw [(made_wrong4 f).1]
  · rw [if_neg e]
theorem addS_len (o x : Txt) : (addS o x).1.length ≤ 122 := by
  unfold addS ifOk badR
  split
  · exact madeT_len _
  · simp
theorem addAll_bad {r : Res} (h : r.2 ≠ 0) (hr : r = ([], r.2)) (l : List Txt) : addAll r l = ([], r.2) := by
  cases l with
  | nil => exact hr
  | cons a l => unfold addAll ifOk badR; rw [if_neg h]
theorem addAll_next {o : Txt} {l : List Txt} {k : Nat} (h : k < l.length) : addAll (o, 0) (l.drop k) = addAll (addS o (l.getD k [])) (l.drop (k + 1)) := by
  rw [drop_txt h]; rfl
theorem sum_first {l : List Txt} (h : ¬ 4096 < l.length) (h1 : firstE l ≠ 0) : sumR l = ([], firstE l) := by unfold sumR ifOk badR; rw [if_neg h, if_neg h1]
theorem sum_all {l : List Txt} (h : ¬ 4096 < l.length) (h1 : firstE l = 0) : sumR l = addAll ([48], 0) l := by unfold sumR ifOk; rw [if_neg h, if_pos h1]
end Go.Proofs.YtdejgaiocjfhjaaGreatDoor
namespace Go.Proofs.YtdejgaiocjfhjaaGreatDoor
open Go.RowKit
open Go.Lib (decDigits itoa)
set_option maxHeartbeats 4000000 in
set_option maxRecDepth 100000 in
theorem sumT_any (l : List Txt) (a : Option Addr) (cap : Nat) (w : World) (hGl : Glob w) (hc : CellsT w a l) (hm : l.length ≤ 9223372036854775807) (hl8 : l.length ≤ 100 ∧ ∀ x ∈ l, x.length ≤ 400) :
    Calls Tryz.prog 54 #[.slice a l.length cap] w (ResP (sumR l) w) := by
  unfold ResP
  have hmany : ¬ 4096 < l.length := by have := hl8.1; omega
  have HC := Lib.hid hc
  have HK := Lib.hid (fun k (hk : k < l.length) W (hW : Ext w W) => check_any (l.getD k []) W (hGl.ext hW) (by have := hl8.2 _ (mem_txt hk); omega))
  have HA := Lib.hid (fun o k (hk : k < l.length) (ho : o.length ≤ 400) W (hW : Ext w W) => add_any o (l.getD k []) W (hGl.ext hW) ho (by have := hl8.2 _ (mem_txt hk); omega))
  have hi : ¬ (4096 : Int) < (l.length : Int) := by omega
  have HB := Lib.hid (fun h => sum_first hmany (l := l) h)
  have HG := Lib.hid (fun h => sum_all hmany (l := l) h)
  obtain ⟨h8, _⟩ := hl8
  clear hc hmany hGl
  unfold ResP at HA
  obtain ⟨S, hS⟩ : ∃ S, S = sumR l := ⟨_, rfl⟩
  rw [← hS] at HB HG ⊢
  clear hS
  go_enter Tryz.func54, Tryz.ntmps54
  go_wp2
  go_loopw [16] (fun i wr => ∃ k : Nat, k ≤ l.length ∧ i = .int .i64 k ∧ Hid (firstE l = firstE (l.drop k)) ∧ Ext w wr) (fun i _ => l.length - (intOf i).toNat)
  case atStart => exact ⟨0, by omega, rfl, rfl, Ext.refl _⟩
  case round =>
    obtain ⟨k, hk, rfl, HE, he⟩ := hrel
    by_cases hlt : k < l.length
    · have hki : (k : Int) < (l.length : Int) := by omega
      obtain ⟨b, off, ha, hcell⟩ := HC.out.ext he k hlt
      subst ha
      have HKX := Lib.hid (HK.out k hlt)
      have hst := firstE_drop hlt
      by_cases hx : fracE (l.getD k []) = 0
      · have HE2 : Hid (firstE l = firstE (l.drop (k + 1))) := by show _ = _; rw [HE.out, hst, if_pos hx]
        rw [hx] at HKX
        generalize l.getD k [] = x at hcell HKX
        clear hx HE hst
        go_wp2_with (go_at_call 88; with_reducible refine (HKX.out _ he).mono ?_; rintro e w1 ⟨rfl, hE⟩)
        refine ⟨⟨k + 1, by omega, by go_num, HE2, he.trans hE⟩, by simp [intOf]; omega⟩
      · have hfe : firstE l = fracE (l.getD k []) := by rw [HE.out, hst, if_neg hx]
        have hR := HB.out (by rw [hfe]; exact hx)
        rw [hfe] at hR
        have HR := Lib.hid hR
        have hne : (((fracE (l.getD k []) : Nat) : Int) != 0) = true := by rw [bne_iff_ne]; omega
        clear hx HE hst hfe hR
        generalize fracE (l.getD k []) = n at *
        generalize l.getD k [] = x at hcell HKX
        go_wp2_with (go_at_call 88; with_reducible refine (HKX.out _ he).mono ?_; rintro e w1 ⟨rfl, hE⟩)
        go_ret2
        exact ⟨by rw [HR.out]; rfl, he.trans hE⟩
    · have hki : ¬ (k : Int) < (l.length : Int) := by omega
      have hkl : k = l.length := by omega
      have h0 : firstE l = 0 := by rw [HE.out, hkl, List.drop_eq_nil_of_le (Nat.le_refl _)]; rfl
      have HS := Lib.hid (HG.out h0)
      clear hlt hkl h0 HE HB HG HK
      go_wp2
      go_loopw [7, 28] (fun o i wr => ∃ (k : Nat) (t : Txt), k ≤ l.length ∧ o = txt t ∧ i = .int .i64 k ∧ t.length ≤ 400 ∧ Hid (S = addAll (t, 0) (l.drop k)) ∧ Ext w wr) (fun _ i _ => l.length - (intOf i).toNat)
      case atStart => exact ⟨0, [48], by omega, rfl, rfl, by simp, HS.out, he⟩
      case round =>
        obtain ⟨k, t, hk, rfl, rfl, ht, HT, he⟩ := hrel
        by_cases hlt : k < l.length
        · have hki : (k : Int) < (l.length : Int) := by omega
          obtain ⟨b, off, ha, hcell⟩ := HC.out.ext he k hlt
          subst ha
          have HAX := Lib.hid (HA.out t k hlt ht)
          have hst := addAll_next (o := t) hlt
          have hlen := addS_len t (l.getD k [])
          by_cases hx : (addS t (l.getD k [])).2 = 0
          · have HT2 : Hid (S = addAll ((addS t (l.getD k [])).1, 0) (l.drop (k + 1))) := by show _ = _; rw [HT.out, hst, ← hx]
            rw [hx] at HAX
            generalize (addS t (l.getD k [])).1 = r at *
            generalize l.getD k [] = x at hcell HAX
            clear hx HT hst
            go_wp2_with (go_at_call 47; with_reducible refine (HAX.out _ he).mono ?_; rintro e w1 ⟨rfl, hE⟩)
            refine ⟨⟨k + 1, r, by omega, rfl, by go_num, by omega, HT2, he.trans hE⟩, by simp [intOf]; omega⟩
          · have hR : S = ([], (addS t (l.getD k [])).2) := by rw [HT.out, hst]; exact addAll_bad hx (addS_bad hx) _
            have HR := Lib.hid hR
            have hne : ((((addS t (l.getD k [])).2 : Nat) : Int) != 0) = true := by rw [bne_iff_ne]; omega
            clear hx HT hst hR hlen
            generalize addS t (l.getD k []) = r at *
            generalize l.getD k [] = x at hcell HAX
            go_wp2_with (go_at_call 47; with_reducible refine (HAX.out _ he).mono ?_; rintro e w1 ⟨rfl, hE⟩)
            go_ret2
            exact ⟨by rw [HR.out]; rfl, he.trans hE⟩
        · have hki : ¬ (k : Int) < (l.length : Int) := by omega
          have hR : S = (t, 0) := by rw [HT.out, List.drop_eq_nil_of_le (by omega)]; rfl
          have HR := Lib.hid hR
          clear HT hR
          go_wp2
          go_ret2
          exact ⟨by rw [HR.out]; rfl, he⟩
end Go.Proofs.YtdejgaiocjfhjaaGreatDoor
namespace Go.Proofs.YtdejgaiocjfhjaaGreatDoor
open Go.RowKit
open Go.Lib (decDigits itoa)
theorem make_good {s t K : Nat} (hs : s < 10 ^ K) (ht : t < 10 ^ K) (h0 : t ≠ 0) (hK : K ≤ 60) (hp : 0 < K) : makeR (itoa (s : Int)) (itoa (t : Int)) = (fracT ((s : Rat) / (t : Rat)), 0) ∧ Good K (fracT ((s : Rat) / (t : Rat))) ((s : Rat) / (t : Rat)) := by
  have hf : FitB K ((s : Rat) / (t : Rat)) := by
    rw [show (s : Rat) / (t : Rat) = mkRat (s : Int) t by rw [Rat.mkRat_eq_div]; rfl]
    exact fit_mk h0 (by simpa using hs) ht
  obtain ⟨g1, g2⟩ := Good.of hf hK
  refine ⟨?_, g2⟩
  have i1 := int_of (s : Int)
  have i2 := int_of (t : Int)
  have hs60 := Nat.lt_of_lt_of_le hs (Nat.pow_le_pow_right (by omega) hK)
  have ht60 := Nat.lt_of_lt_of_le ht (Nat.pow_le_pow_right (by omega) hK)
  have n1 : intE (itoa (s : Int)) = 0 := intE_of (by simpa using hs60)
  have n2 : intE (itoa (t : Int)) = 0 := intE_of (by simpa using ht60)
  have nz : itoa (t : Int) ≠ [48] := fun e => by
    have := (int_zero i2.1).1 e
    rw [i2.2] at this
    omega
  unfold makeR ifOk
  rw [if_pos n1, if_pos n2, if_neg nz, i1.2, i2.2, ← g1]
  congr 2
def unitQ (k : Nat) : Rat := ((1 : Nat) : Rat) / ((k * (k + 1) : Nat) : Rat)
def serL (low j : Nat) : List Txt := (List.range j).map fun i => fracT (unitQ (low + i))
theorem serL_len (low j : Nat) : (serL low j).length = j := by simp [serL]
theorem serL_succ (low j : Nat) : serL low (j + 1) = serL low j ++ [fracT (unitQ (low + j))] := by simp [serL, List.range_succ]
def serQ (low j : Nat) : Rat := ((1 : Nat) : Rat) / (low : Rat) - ((1 : Nat) : Rat) / ((low + j : Nat) : Rat)
theorem unit_good {k : Nat} (h1 : 0 < k) (h2 : k ≤ 50) : makeR (itoa 1) (itoa ((k * (k + 1) : Nat) : Int)) = (fracT (unitQ k), 0) ∧ Good 4 (fracT (unitQ k)) (unitQ k) := by
  have h3 : k * (k + 1) ≤ 50 * 51 := Nat.mul_le_mul h2 (by omega)
  exact make_good (s := 1) (t := k * (k + 1)) (K := 4) (by omega) (by omega) (Nat.mul_ne_zero (by omega) (by omega)) (by omega) (by omega)
theorem over_one {k : Nat} (h1 : 0 < k) (h2 : k ≤ 60) : makeR (itoa 1) (itoa (k : Int)) = (fracT (((1 : Nat) : Rat) / (k : Rat)), 0) ∧ Good 2 (fracT (((1 : Nat) : Rat) / (k : Rat))) (((1 : Nat) : Rat) / (k : Rat)) :=
  make_good (s := 1) (t := k) (K := 2) (by omega) (by omega) (by omega) (by omega) (by omega)
theorem ser_good {low j : Nat} (h1 : 0 < low) (h2 : low + j ≤ 60) : Good 5 (fracT (serQ low j)) (serQ low j) := by
  have a := (over_one h1 (by omega)).2
  have b := (over_one (k := low + j) (by omega) h2).2
  exact (a.sub b (by omega)).2
theorem ser_next {low j : Nat} (h1 : 0 < low) (h2 : low + j ≤ 50) : addS (fracT (serQ low j)) (fracT (unitQ (low + j))) = (fracT (serQ low (j + 1)), 0) := by
  have a := ser_good h1 (by omega : low + j ≤ 60)
  have b := (unit_good (k := low + j) (by omega) h2).2
  have e : serQ low j + unitQ (low + j) = serQ low (j + 1) := by
    unfold serQ unitQ
    have e1 : ((low + (j + 1) : Nat) : Rat) = ((low + j : Nat) : Rat) + 1 := by push_cast; grind
    have e2 : (((low + j) * (low + j + 1) : Nat) : Rat) = ((low + j : Nat) : Rat) * (((low + j : Nat) : Rat) + 1) := by push_cast; rfl
    have hx : (0 : Rat) < ((low + j : Nat) : Rat) := by exact_mod_cast (show 0 < low + j by omega)
    rw [e1, e2]
    generalize ((low + j : Nat) : Rat) = x at *
    generalize ((1 : Nat) : Rat) / (low : Rat) = y
    have o : ((1 : Nat) : Rat) = 1 := rfl
    rw [o]
    have n1 : x ≠ 0 := by grind
    have n2 : x + 1 ≠ 0 := by grind
    have n3 : x * (x + 1) ≠ 0 := by
      intro h
      rcases Rat.mul_eq_zero.1 h with h | h
      · exact n1 h
      · exact n2 h
    grind
  rw [(a.add b (by omega)).1, e]
theorem ser_zero {low : Nat} : fracT (serQ low 0) = [48] := by
  have h : serQ low 0 = 0 := by unfold serQ; rw [Nat.add_zero, Rat.sub_self]
  rw [h]
  exact (Good.zero (Good.of (zero_good.fit) (by omega)).2).2 rfl
theorem ser_drop {low : Nat} (n : Nat) : ∀ j, j ≤ n → 0 < low → low + n ≤ 50 → addAll (fracT (serQ low j), 0) ((serL low n).drop j) = (fracT (serQ low n), 0) := by
  intro j hj h1 h2
  obtain ⟨d, hd⟩ : ∃ d, d = n - j := ⟨_, rfl⟩
  induction d generalizing j with
  | zero =>
    obtain rfl : j = n := by omega
    rw [List.drop_eq_nil_of_le (by rw [serL_len]; exact Nat.le_refl _)]; rfl
  | succ d ih =>
    have hlt : j < (serL low n).length := by rw [serL_len]; omega
    have e : (serL low n).getD j [] = fracT (unitQ (low + j)) := by
      unfold serL
      rw [List.getD_eq_getElem?_getD, List.getElem?_map, List.getElem?_range (by omega)]; rfl
    rw [addAll_next hlt, e, ser_next h1 (by omega)]
    exact ih (j + 1) (by omega) (by omega)
theorem ser_first {low n : Nat} (h1 : 0 < low) (h2 : low + n ≤ 50) : ∀ x ∈ serL low n, fracE x = 0 := fun x hx => by
  unfold serL at hx
  obtain ⟨i, hi, rfl⟩ := List.mem_map.1 hx
  exact (unit_good (k := low + i) (by omega) (by have := List.mem_range.1 hi; omega)).2.ok
theorem firstE_ok : ∀ {l : List Txt}, (∀ x ∈ l, fracE x = 0) → firstE l = 0
  | [], _ => rfl
  | a :: l, h => by
    unfold firstE
    rw [if_pos (h a (List.mem_cons_self ..))]
    exact firstE_ok fun x hx => h x (List.mem_cons_of_mem _ hx)
theorem ser_sum {low n : Nat} (h1 : 0 < low) (h2 : low + n ≤ 50) : sumR (serL low n) = (fracT (serQ low n), 0) := by
  unfold sumR ifOk
  rw [if_neg (by rw [serL_len]; omega), if_pos (firstE_ok (ser_first h1 h2))]
  have k := ser_drop n 0 (by omega) h1 h2
  rw [ser_zero] at k
  exact k
theorem ex_third : addS [49, 47, 49, 50] [49, 47, 52] = ([49, 47, 51], 0) := op_is (by decide) (by decide) (by decide) (by decide +kernel)
set_option maxHeartbeats 2000000 in
theorem playF_any (w : World) (hG : Glob w) : Calls Tryz.prog 56 #[] w fun e w' => e = .returned (.bool true) ∧ Ext w w' := by
  have H := Lib.hid (add_any [49, 47, 49, 50] [49, 47, 52] w hG (by decide) (by decide))
  rw [ex_third] at H
  unfold ResP at H
  go_enter Tryz.func56, Tryz.ntmps56
  go_wp2_with fail
  refine H.out.mono ?_
  rintro e w1 ⟨rfl, hE⟩
  go_wp2_with fail
  go_ret
  exact ⟨rfl, hE⟩
end Go.Proofs.YtdejgaiocjfhjaaGreatDoor
namespace Go.Proofs.YtdejgaiocjfhjaaGreatDoor
open Go.RowKit
open Go.Lib (decDigits itoa)
set_option maxHeartbeats 1000000 in
theorem rOverI_any (s t : Nat) (w : World) (r : Txt) (hs : s ≤ 1000) (ht : t ≤ 1000) (h : makeR (itoa (s : Int)) (itoa (t : Int)) = (r, 0)) : Calls Tryz.prog 55 #[.int .i64 (s : Int), .int .i64 (t : Int)] w fun e w' => e = .returned (txt r) ∧ Ext w w' := by
  have H := Lib.hid (ofR_any (s : Int) (t : Int) w (by omega) (by omega) (by omega) (by omega))
  rw [h] at H
  unfold ResP at H
  go_enter Tryz.func55, Tryz.ntmps55
  go_wp2_with (go_at_call 97; refine H.out.mono ?_; rintro e w1 ⟨rfl, hE⟩)
  go_ret
  exact ⟨rfl, hE⟩
set_option maxHeartbeats 16000000 in
set_option maxRecDepth 100000 in
theorem lawSeries_any (m n : Nat) (w : World) (hG : Glob w) (hm : m ≤ 255) (hn : n ≤ 255) : Calls Tryz.prog 11 #[.int .u8 (m : Int), .int .u8 (n : Int)] w (TrueP w) := by
  have HG := Lib.hid hG
  clear hG
  unfold TrueP
  obtain ⟨low, hlow⟩ : ∃ low, low = 1 + m % 20 := ⟨_, rfl⟩
  obtain ⟨hi, hhi⟩ : ∃ hi, hi = low + n % 20 := ⟨_, rfl⟩
  have hl1 : 0 < low := by omega
  have hl2 : low ≤ 20 := by omega
  have hl3 : low ≤ hi := by omega
  have hl4 : hi ≤ 39 := by omega
  have hlo : 1 + (m : Int) % 20 = (low : Int) := by omega
  have hhi2 : (low : Int) + (n : Int) % 20 = (hi : Int) := by omega
  obtain ⟨i0, hi', hi0, hi1, hi2⟩ := info_parts infoT
  have hmx : (1000 : Nat) ≤ maxLen := by decide
  clear hlow hhi
  go_enter Tryz.func11, Tryz.ntmps11
  go_wp2
  go_loopw [7, 8] (fun v i wr => ∃ (k : Nat), low ≤ k ∧ k ≤ hi + 1 ∧ i = .int .i64 (k : Int) ∧ Hid (OwnT wr v (serL low (k - low)) ∧ ∀ b, v.ownBlock = some b → w.heap.size ≤ b) ∧ Ext w wr) (fun _ i _ => hi + 1 - (intOf i).toNat)
  case atStart => exact ⟨low, by omega, by omega, rfl, ⟨by rw [Nat.sub_self]; exact World.ownsRow_nil _ 0 _ _, fun b hb => by cases hb⟩, Ext.refl _⟩
  case round =>
    obtain ⟨k, hk1, hk2, rfl, HO, he⟩ := hrel
    by_cases hgo : k ≤ hi
    · have hki : (k : Int) ≤ (hi : Int) := by omega
      obtain ⟨z, hz⟩ : ∃ z, z = k * (k + 1) := ⟨_, rfl⟩
      have hz2 : z ≤ 39 * 40 := by rw [hz]; exact Nat.mul_le_mul (by omega) (by omega)
      have hmul : (k : Int) * ((k : Int) + 1) = (z : Int) := by rw [hz]; push_cast; rfl
      have g := (unit_good (k := k) (by omega) (by omega)).1
      rw [← hz] at g
      have HF : Hid (∀ W, Ext w W → Calls Tryz.prog 53 #[.int .i64 1, .int .i64 (z : Int)] W (ResP (fracT (unitQ k), 0) W)) := fun W h => by rw [← g]; exact of_any 1 (z : Int) W (HG.out.ext h) (by omega) (by omega) (by omega) (by omega)
      have HSU : Hid (serL low (k + 1 - low) = serL low (k - low) ++ [fracT (unitQ k)]) := by
        show _ = _
        rw [show k + 1 - low = (k - low) + 1 by omega, serL_succ, show low + (k - low) = k by omega]
      have hlen : (serL low (k - low)).length ≤ 40 := by rw [serL_len]; omega
      generalize fracT (unitQ k) = t at *
      generalize serL low (k - low) = l at *
      unfold ResP at HF
      clear g hz
      obtain ⟨H1, H2⟩ := HO.out
      have HO1 := Lib.hid H1
      have HO2 := Lib.hid H2
      clear H1 H2 HO
      go_wp2_with fail
      refine (HF.out _ he).mono ?_
      clear HF
      rintro e w2 ⟨rfl, hE⟩
      have HO3 := Lib.hid (HO1.out.ext hE)
      replace he := he.trans hE
      have hkw : IntKind.i64.wrap ((k : Int) + 1) = (k : Int) + 1 := by rw [IntKind.wrap_i64]; omega
      clear hE HO1
      go_wp2_with (at_builtin; refine wpList_append1 _ rfl _ _ 71 rfl 22 i0 (.string ⟨#[]⟩) 1 16 Tryz.underlying71 hi' hi0 hi1 hi2 rfl (by decide) u7 l.length (txtsV l) rfl (HO3.out.ext ((Ext.refl _).alloc _)) ⟨w2.heap.size, 0, none⟩ 1 1 (by decide) [txt t] rfl rfl (cells_one _ _ _) (by intro u hu; simp at hu; subst hu; rfl) (by omega) (by omega) ?_)
      intro v' w5 hown hend
      have OB : Hid (∀ b, v'.ownBlock = some b → w.heap.size ≤ b) := hend.ge (n := w.heap.size) (by have := he.size; simp; omega) HO2.out
      have O5 : Hid (OwnT w5 v' (serL low (k + 1 - low))) := by show OwnT _ _ _; rw [HSU.out]; exact OwnT.succ hown
      have B5 : Ext w w5 := (he.trans ((Ext.refl _).alloc _)).trans' (hend.below (n := w.heap.size) (by have := he.size; simp; omega) HO2.out) (Nat.le_refl _)
      clear hown hend HO3 HO2 HSU he
      go_wp2
      refine ⟨⟨k + 1, by omega, by omega, by go_num, ⟨O5.out, OB.out⟩, B5⟩, by simp [intOf]; omega⟩
    · have hki : ¬ (k : Int) ≤ (hi : Int) := by omega
      have hkh : k = hi + 1 := by omega
      subst hkh
      obtain ⟨H1, _⟩ := HO.out
      obtain ⟨a, cap, rfl, hcs⟩ := H1.reads
      clear HO H1
      have hsum := ser_sum (low := low) (n := hi + 1 - low) hl1 (by omega)
      have hlen := serL_len low (hi + 1 - low)
      have HS : Hid (∀ W, Ext wr W → Calls Tryz.prog 54 #[.slice a (serL low (hi + 1 - low)).length cap] W (ResP (fracT (serQ low (hi + 1 - low)), 0) W)) := fun W h => by
        rw [← hsum]
        exact sumT_any (serL low (hi + 1 - low)) a cap W (HG.out.ext (he.trans h)) (hcs.ext h) (by rw [hlen]; omega) ⟨by rw [hlen]; omega, fun x hx => len_right (ser_first hl1 (by omega) x hx)⟩
      have g1 := over_one (k := low) hl1 (by omega)
      have g2 := over_one (k := hi + 1) (by omega) (by omega)
      have H1 := Lib.hid (fun W => rOverI_any 1 low W _ (by omega) (by omega) g1.1)
      have H2 := Lib.hid (fun W => rOverI_any 1 (hi + 1) W _ (by omega) (by omega) g2.1)
      have hq : fracT (serQ low (hi + 1 - low)) = fracT (((1 : Nat) : Rat) / (low : Rat) - ((1 : Nat) : Rat) / ((hi + 1 : Nat) : Rat)) := by
        unfold serQ
        rw [show low + (hi + 1 - low) = hi + 1 by omega]
      have H3 : Hid (∀ W, Ext wr W → Calls Tryz.prog 48 #[txt (fracT (((1 : Nat) : Rat) / (low : Rat))), txt (fracT (((1 : Nat) : Rat) / ((hi + 1 : Nat) : Rat)))] W (ResP (fracT (serQ low (hi + 1 - low)), 0) W)) := fun W h => by
        rw [hq, ← (g1.2.sub g2.2 (by omega)).1]
        exact sub_any _ _ W (HG.out.ext (he.trans h)) g1.2.len g2.2.len
      have HP := Lib.hid (fun W (h : Ext w W) => playF_any W (HG.out.ext h))
      generalize fracT (serQ low (hi + 1 - low)) = r at *
      generalize fracT (((1 : Nat) : Rat) / (low : Rat)) = s at *
      generalize fracT (((1 : Nat) : Rat) / ((hi + 1 : Nat) : Rat)) = t at *
      generalize (serL low (hi + 1 - low)).length = len at *
      obtain ⟨h', hh'⟩ : ∃ h', h' = hi + 1 := ⟨_, rfl⟩
      have hhw : IntKind.i64.wrap ((hi : Int) + 1) = (h' : Int) := by rw [IntKind.wrap_i64]; omega
      have hhw2 : (hi : Int) + 1 = (h' : Int) := by omega
      rw [← hh'] at H2
      unfold ResP at HS H3
      clear hsum hlen g1 g2 hq hcs HG hh'
      have F := Ext.refl wr
      go_wp2_with fail
      refine (HS.out _ F).mono ?_
      clear HS
      rintro e w2 ⟨rfl, hE⟩
      replace F := F.trans hE
      clear hE
      go_wp2_with fail
      refine (H1.out _).mono ?_
      clear H1
      rintro e w3 ⟨rfl, hE⟩
      replace F := F.trans hE
      clear hE
      go_wp2_with fail
      refine (H2.out _).mono ?_
      clear H2
      rintro e w4 ⟨rfl, hE⟩
      replace F := F.trans hE
      clear hE
      go_wp2_with fail
      refine (H3.out _ F).mono ?_
      clear H3
      rintro e w5 ⟨rfl, hE⟩
      replace F := F.trans hE
      clear hE
      go_wp2_with fail
      refine (HP.out _ (he.trans F)).mono ?_
      rintro e w6 ⟨rfl, hE⟩
      replace F := F.trans hE
      clear hE
      go_wp2_with fail
      go_ret
      exact ⟨rfl, he.trans F⟩
end Go.Proofs.YtdejgaiocjfhjaaGreatDoor
