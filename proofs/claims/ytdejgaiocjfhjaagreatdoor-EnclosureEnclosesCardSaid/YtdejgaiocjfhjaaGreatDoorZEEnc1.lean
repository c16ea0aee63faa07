/- Steps of the proof: FFit, FSpec, FMakP, FLongR, FOfR, FRing, FRefS, EOpen, ELaw3, ELaw4, ELaw5, ELAwk, ELRig, ELEnc. No conditions. -/
import Derived.Lib.SmallJoins
import Derived.Deep.Slices
import Derived.Test.YtdejgaiocjfhjaaGreatDoorZEB1
import Derived.Test.YtdejgaiocjfhjaaGreatDoorZEB2
import Derived.Test.YtdejgaiocjfhjaaGreatDoorZEB3
import Derived.Test.YtdejgaiocjfhjaaGreatDoorZEB4
import Derived.Test.YtdejgaiocjfhjaaGreatDoorZEB5
import Derived.Test.YtdejgaiocjfhjaaGreatDoorZEB6
import Derived.Test.YtdejgaiocjfhjaaGreatDoorZEB7
import Derived.Test.YtdejgaiocjfhjaaGreatDoorZEB8
import Derived.Test.YtdejgaiocjfhjaaGreatDoorZEB9
import Derived.Test.YtdejgaiocjfhjaaGreatDoorZEB10
import Derived.Test.YtdejgaiocjfhjaaGreatDoorZEB11
import Derived.Test.YtdejgaiocjfhjaaGreatDoorZEB12
namespace Go.Proofs.YtdejgaiocjfhjaaGreatDoor
open Go.Lib (decDigits itoa)
theorem FitB.inv {K : Nat} {q : Rat} (h : FitB K q) : FitB (K + 1) q⁻¹ := by
  have e : 10 ^ (K + 1) = 10 * 10 ^ K := by rw [Nat.pow_succ, Nat.mul_comm]
  unfold FitB
  rw [Rat.num_inv, Rat.den_inv]
  have h1 : (q.num.sign * (q.den : Int)).natAbs ≤ q.den := by
    rw [Int.natAbs_mul, Int.natAbs_natCast, Int.natAbs_sign]
    split <;> omega
  refine ⟨by have := h.2; omega, ?_⟩
  have := h.1
  have h0 : 0 < 10 ^ K := Nat.pow_pos (by omega)
  split <;> omega
theorem FitB.div {K L : Nat} {q r : Rat} (h : FitB K q) (k : FitB L r) : FitB (K + (L + 1)) (q / r) := by
  rw [Rat.div_def]; exact h.mul k.inv
end Go.Proofs.YtdejgaiocjfhjaaGreatDoor
namespace Go.Proofs.YtdejgaiocjfhjaaGreatDoor
open Go.Lib (decDigits itoa)
def makeR (s t : Txt) : Res := ifOk (intE s) badR (ifOk (intE t) badR (if t = [48] then ([], 10) else resQ ((intV s : Rat) / (intV t : Rat))))
theorem int_div {z y : Int} (hy : y ≠ 0) : numQ (decide (z < 0) != decide (y < 0)) z.natAbs y.natAbs = (z : Rat) / (y : Rat) := by
  have key : ∀ x : Int, (x : Rat) = numQ (decide (x < 0)) x.natAbs 1 := fun x => by
    apply Rat.ext
    · rw [(num_of (by omega)).1, Rat.num_intCast, Nat.gcd_one_right, Nat.div_one]
      unfold sgnI
      by_cases h : x < 0
      · rw [decide_eq_true h, if_pos rfl]; omega
      · rw [decide_eq_false h, if_neg (by simp)]; omega
    · rw [(num_of (by omega)).2, Rat.den_intCast, Nat.gcd_one_right, Nat.div_one]
  rw [key z, key y, ← num_div _ _ _ _ _ _ (by omega) (by omega), Nat.mul_one, Nat.one_mul]
theorem int_zero {s : Txt} (h : IntS s) : s = [48] ↔ intV s = 0 := by
  constructor
  · rintro rfl; rfl
  · intro e
    rw [← int_back h, e]
    exact (Go.Lib.itoa_nonneg 0).trans (digits_small (by omega))
end Go.Proofs.YtdejgaiocjfhjaaGreatDoor
namespace Go.Proofs.YtdejgaiocjfhjaaGreatDoor
open Go.RowKit
open Go.Lib (decDigits)
theorem neg_int {s : Txt} (h : IntS s) : decide (intV s < 0) = negS s := by
  unfold intV
  cases hn : negS s with
  | false => rw [if_neg (by simp)]; exact decide_eq_false (by omega)
  | true =>
    rw [if_pos rfl]
    refine decide_eq_true ?_
    have h0 : decV (bareS s) ≠ 0 := fun e => by
      have h1 := canon_zero h.1 e
      have h2 := neg_cons hn
      rw [h1] at h2
      exact h.2 h2
    omega
theorem make_num {s t : Txt} (hs : intE s = 0) (ht : intE t = 0) (h0 : t ≠ [48]) :
    makeR s t = resQ (numQ (negS s != negS t) (decV (bareS s)) (decV (bareS t))) ∧ decV (bareS t) ≠ 0 := by
  obtain ⟨h1, _⟩ := intE_zero hs
  obtain ⟨h2, _⟩ := intE_zero ht
  have hz : intV t ≠ 0 := fun e => h0 ((int_zero h2).2 e)
  refine ⟨?_, fun e => hz (by have := intV_abs t; omega)⟩
  unfold makeR ifOk
  rw [if_pos hs, if_pos ht, if_neg h0, ← int_div hz, neg_int h1, neg_int h2, intV_abs, intV_abs]
theorem make_e1 {s t : Txt} (hs : intE s ≠ 0) : makeR s t = ([], intE s) := by unfold makeR ifOk badR; rw [if_neg hs]
theorem make_e2 {s t : Txt} (hs : intE s = 0) (ht : intE t ≠ 0) : makeR s t = ([], intE t) := by unfold makeR ifOk badR; rw [if_pos hs, if_neg ht]
theorem make_z {s t : Txt} (hs : intE s = 0) (ht : intE t = 0) (h0 : t = [48]) : makeR s t = ([], 10) := by unfold makeR ifOk; rw [if_pos hs, if_pos ht, if_pos h0]
theorem int_head {s : Txt} (h : intE s = 0) : ∃ c, (∀ k, (⟨s.toArray⟩ : ByteArray)[0]'k = c) ∧ ((c.toNat : Int) == 45) = negS s ∧ 0 < s.length := by
  have hne : s ≠ [] := fun e => (intE_ok h).1.2.1 (by rw [e]; rfl)
  obtain ⟨c, m, hcm⟩ := List.exists_cons_of_ne_nil hne
  exact ⟨c, fun _ => by subst hcm; rfl, head_neg hcm, by rw [hcm]; simp⟩
set_option maxHeartbeats 8000000 in
set_option maxRecDepth 100000 in
theorem makeR_any (s t : Txt) (w : World) (hsl : s.length ≤ 400) (htl : t.length ≤ 400) :
    Calls Tryz.prog 134 #[txt s, txt t] w (ResP (makeR s t) w) := by
  have HIS := Lib.hid (fun W => integerR_any s W hsl)
  have HIT := Lib.hid (fun W => integerR_any t W htl)
  by_cases hs : intE s = 0
  · rw [hs] at HIS
    by_cases ht : intE t = 0
    · rw [ht] at HIT
      by_cases h0 : t = [48]
      · have HR := Lib.hid (make_z hs ht h0)
        have hz : (t == [48]) = true := by rw [h0]; rfl
        clear h0 hs ht
        unfold ResP
        rw [HR.out]
        go_enter Tryz.func134, Tryz.ntmps134
        go_wp2_with (go_at_call 100; first | (with_reducible refine (HIS.out _).mono ?_; rintro e w' ⟨rfl, rfl⟩) | (with_reducible refine (HIT.out _).mono ?_; rintro e w' ⟨rfl, rfl⟩))
        go_ret2
        exact ⟨rfl, extA⟩
      · have HR := Lib.hid (make_num hs ht h0)
        have hz : (t == [48]) = false := by rw [beq_eq_false_iff_ne]; exact h0
        obtain ⟨c1, g1, n1, p1⟩ := int_head hs
        obtain ⟨c2, g2, n2, p2⟩ := int_head ht
        obtain ⟨k1, _, k3⟩ := intE_ok hs
        obtain ⟨k4, _, k6⟩ := intE_ok ht
        have HBS := Lib.hid (fun W => bareR_any s W hsl)
        have HBT := Lib.hid (fun W => bareR_any t W htl)
        have HRS := Lib.hid (fun W => readR_any (bareS s) W k1.1 (by omega))
        have HRT := Lib.hid (fun W => readR_any (bareS t) W k4.1 (by omega))
        have HL1 := Lib.hid (len_dec k1.1 k3)
        have HL2 := Lib.hid (len_dec k4.1 k6)
        have hi1 : (0 : Int) < (s.length : Int) := by omega
        have hi2 : (0 : Int) < (t.length : Int) := by omega
        have hTT : True := trivial
        clear h0 hs ht k1 k3 k4 k6
        unfold ResP
        rw [HR.out.1]
        generalize bareS s = bs at *
        generalize bareS t = bt at *
        generalize decV bs = x at *
        generalize decV bt = y at *
        generalize negS s = sn at *
        generalize negS t = tn at *
        go_enter Tryz.func134, Tryz.ntmps134
        go_wp2_with (go_at_call 100; first | (with_reducible refine (HIS.out _).mono ?_; rintro e w' ⟨rfl, rfl⟩) | (with_reducible refine (HIT.out _).mono ?_; rintro e w' ⟨rfl, rfl⟩))
        have hdr : Ext w' w'.drew := extA
        refine wp_region_heldE 99 (fun _ => True) (by kernel_rfl) ?_
        generalize w'.drew = W1 at hdr ⊢
        have E := hdr
        clear hdr
        ((refine eTk 0 ?_); (refine eTk 1 ?_); (refine eTk 2 ?_); (refine eTk 3 ?_); (refine eTk 4 ?_); (refine eTk 5 ?_); (refine eTk 6 ?_); (refine eTk 7 ?_); (refine eTk 10 ?_))
        (refine wpAnyE_one (i := 8) (o := ?_) ?_ (by kernel_rfl) (fun K hK => ?_); rotate_left; (focus ((simp only [List.getElem?_toArray, List.getElem?_cons_succ, List.getElem?_cons_zero]; exact rfl))); go_simp; go_at_call 105; refine (HBS.out _).mono ?_; rintro e w' ⟨rfl, rfl⟩; go_wp2_with fail; refine hK.out _ _ ?_ (fun hHeld => ?_); rotate_left; clear hK K; (try simp only [Act.put, List.setIfInBounds_toArray, List.set_cons_zero, List.set_cons_succ]))
        rotate_left
        · trivial
        clear hHeld
        (refine wpAnyE_one (i := 9) (o := ?_) ?_ (by kernel_rfl) (fun K hK => ?_); rotate_left; (focus ((simp only [List.getElem?_toArray, List.getElem?_cons_succ, List.getElem?_cons_zero]; exact rfl))); go_simp; go_at_call 104; refine (HRS.out _).mono ?_; rintro e w5 ⟨v5, rfl, o5, n5, e5⟩; obtain ⟨a5, c5, rfl, oc5, _, _⟩ := o5.reads; go_wp2_with fail; refine hK.out _ _ ?_ (fun hHeld => ?_); rotate_left; clear hK K; (try simp only [Act.put, List.setIfInBounds_toArray, List.set_cons_zero, List.set_cons_succ]))
        rotate_left
        · trivial
        replace E := E.trans e5
        have C5 := Lib.hid oc5
        clear hHeld o5 n5 e5 oc5
        (refine wpAnyE_one (i := 11) (o := ?_) ?_ (by kernel_rfl) (fun K hK => ?_); rotate_left; (focus ((simp only [List.getElem?_toArray, List.getElem?_cons_succ, List.getElem?_cons_zero]; exact rfl))); go_simp; go_at_call 105; refine (HBT.out _).mono ?_; rintro e w' ⟨rfl, rfl⟩; go_wp2_with fail; refine hK.out _ _ ?_ (fun hHeld => ?_); rotate_left; clear hK K; (try simp only [Act.put, List.setIfInBounds_toArray, List.set_cons_zero, List.set_cons_succ]))
        rotate_left
        · trivial
        clear hHeld
        (refine wpAnyE_one (i := 12) (o := ?_) ?_ (by kernel_rfl) (fun K hK => ?_); rotate_left; (focus ((simp only [List.getElem?_toArray, List.getElem?_cons_succ, List.getElem?_cons_zero]; exact rfl))); go_simp; go_at_call 104; refine (HRT.out _).mono ?_; rintro e w6 ⟨v6, rfl, o6, n6, e6⟩; obtain ⟨a6, c6, rfl, oc6, _, _⟩ := o6.reads; go_wp2_with fail; refine hK.out _ _ ?_ (fun hHeld => ?_); rotate_left; clear hK K; (try simp only [Act.put, List.setIfInBounds_toArray, List.set_cons_zero, List.set_cons_succ]))
        rotate_left
        · trivial
        replace E := E.trans e6
        have C6 := Lib.hid oc6
        replace C5 := Lib.hid (C5.out.ext e6)
        clear hHeld o6 n6 e6 oc6
        (refine ePu 13 ?_)
        (refine wpAnyE_one (i := 14) (o := ?_) ?_ (by kernel_rfl) (fun K hK => ?_); rotate_left; (focus ((simp only [List.getElem?_toArray, List.getElem?_cons_succ, List.getElem?_cons_zero]; exact rfl))); go_simp; go_at_call 116; refine (madeR_any (sn != tn) x y _ w6 ⟨a5, c5, a6, c6, rfl, C5.out, C6.out⟩ HR.out.2 (Nat.le_trans HL1.out (by omega)) (Nat.le_trans HL2.out (by omega))).mono ?_; rintro e w7 ⟨rfl, e7⟩; go_wp2_with fail; refine hK.out _ _ ?_ (fun hHeld => ?_); rotate_left; clear hK K; (try simp only [Act.put, List.setIfInBounds_toArray, List.set_cons_zero, List.set_cons_succ]))
        rotate_left
        · trivial
        replace E := E.trans e7
        clear hHeld e7
        ((refine ePu 15 ?_); (refine ePu 16 ?_); (refine ePu 17 ?_); (refine ePu 18 ?_))
        refine wpAnyE_done (by kernel_rfl) ?_ _
        go_wp2_with fail
        go_ret2
        exact ⟨rfl, E⟩
    · have HR := Lib.hid (make_e2 hs ht)
      have h2 : ((intE t : Int) != 0) = true := by rw [bne_iff_ne]; omega
      clear hs ht
      unfold ResP
      rw [HR.out]
      generalize intE t = q at *
      go_enter Tryz.func134, Tryz.ntmps134
      go_wp2_with (go_at_call 100; first | (with_reducible refine (HIS.out _).mono ?_; rintro e w' ⟨rfl, rfl⟩) | (with_reducible refine (HIT.out _).mono ?_; rintro e w' ⟨rfl, rfl⟩))
      go_ret2
      exact ⟨rfl, extA⟩
  · have HR := Lib.hid (make_e1 (t := t) hs)
    have h2 : ((intE s : Int) != 0) = true := by rw [bne_iff_ne]; omega
    clear hs
    unfold ResP
    rw [HR.out]
    generalize intE s = p at *
    go_enter Tryz.func134, Tryz.ntmps134
    go_wp2_with (go_at_call 100; (with_reducible refine (HIS.out _).mono ?_; rintro e w' ⟨rfl, rfl⟩))
    go_ret2
    exact ⟨rfl, extA⟩
end Go.Proofs.YtdejgaiocjfhjaaGreatDoor
namespace Go.Proofs.YtdejgaiocjfhjaaGreatDoor
open Go.RowKit
set_option maxHeartbeats 4000000 in
set_option maxRecDepth 100000 in
theorem longR_any (x : Nat) (hx : x < 9223372036854775808) (w : World) :
    Calls Tryz.prog 137 #[.int .i64 (x : Int)] w (OwnNPost .i64 3 (toB 1000000 x) w) := by
  obtain ⟨i0, hi, hi0, hi1, hi2⟩ := info_parts infoI64
  have hlen : (toB 1000000 x).length ≤ 4 := toB_len (by omega) 4 (by omega)
  obtain ⟨l, hl⟩ : ∃ l, l = toB 1000000 x := ⟨_, rfl⟩
  rw [← hl] at hlen ⊢
  have HL := Lib.hid hl
  clear hl
  go_enter Tryz.func137, Tryz.ntmps137
  go_wp2
  go_loopw [0, 3] (fun n v wr => ∃ (j m : Nat) (vv : Value), n = .int .i64 (m : Int) ∧ v = vv ∧ m < 9223372036854775808 ∧ Hid (m = x / 1000000 ^ j) ∧ j ≤ l.length ∧ Hid (OwnsN .i64 3 wr vv (l.take j)) ∧ Hid (∀ b, vv.ownBlock = some b → w.heap.size ≤ b) ∧ Ext w wr) (fun n _ _ => (intOf n).toNat)
  case atStart => exact ⟨0, x, _, rfl, rfl, hx, by show _ = _; simp, Nat.zero_le _, OwnsN.nil _ _ _, (fun b hb => by cases hb), Ext.refl _⟩
  case round =>
    obtain ⟨j, m, vv, rfl, hvv, hm, hmx, hj, HO, HN, he⟩ := hrel
    obtain rfl := hvv.symm
    by_cases h0 : m = 0
    · have HF : Hid (l.take j = l) := by
        have h1 : ¬ j < l.length := fun h => by
          rw [HL.out] at h
          exact (len_toB (by omega) j x).1 h (by rw [← hmx.out]; exact h0)
        show _ = _
        exact List.take_of_length_le (by omega)
      subst h0
      clear hmx
      go_wp2
      go_ret
      exact ⟨_, rfl, by rw [HF.out] at HO; exact HO.out, HN.out, he⟩
    · have hjl : j < l.length := by
        rw [HL.out]
        exact (len_toB (by omega) j x).2 (by rw [← hmx.out]; exact h0)
      obtain ⟨r, hr⟩ : ∃ r, r = m % 1000000 := ⟨_, rfl⟩
      obtain ⟨d, hd⟩ : ∃ d, d = m / 1000000 := ⟨_, rfl⟩
      have HR : Hid (l.take (j + 1) = l.take j ++ [r]) := by
        show _ = _
        have e : l.getD j 0 = x / 1000000 ^ j % 1000000 := by rw [HL.out]; exact getD_toB (by omega) j x
        rw [take_last hjl, hr, hmx.out, e]
      have HD : Hid (d = x / 1000000 ^ (j + 1)) := by
        show _ = _
        rw [hd, hmx.out, Nat.div_div_eq_div_mul, Nat.pow_succ]
      have ht1 : (m : Int).tmod 1000000 = (r : Int) := by rw [Int.tmod_eq_emod_of_nonneg (by omega)]; omega
      have ht2 : (m : Int).tdiv 1000000 = (d : Int) := by rw [Int.tdiv_eq_ediv_of_nonneg (by omega)]; omega
      have hw4 : IntKind.i64.wrap (d : Int) = (d : Int) := by rw [IntKind.wrap_i64]; omega
      have hdm : d < m := by omega
      have hm0 : (0 : Int) < (m : Int) := by omega
      have hlt : (l.take j).length ≤ 4 := by rw [List.length_take]; omega
      generalize l.take j = o at HO HR hlt
      clear hr hd hmx h0
      go_wp2_with (at_builtin; refine wpList_append1 _ rfl _ _ 128 rfl 3 i0 (.int .i64 0) 1 8 Tryz.underlying128 hi hi0 hi1 hi2 rfl (by decide) vv o.length (natsV .i64 o) rfl (HO.out.ext ((Ext.refl _).alloc _)) ⟨wr.heap.size, 0, none⟩ 1 1 (by decide) [.int .i64 (r : Int)] rfl rfl (cells_one _ _ _) (by intro u hu; simp at hu; subst hu; rfl) (by unfold maxLen; omega) (by omega) ?_)
      all_goals
        intro v' w5 hown5 hend5
        have OB5 : Hid (∀ b, v'.ownBlock = some b → w.heap.size ≤ b) := hend5.ge (n := w.heap.size) (by have := he.size; simp; omega) HN.out
        have O5 : Hid (OwnsN .i64 3 w5 v' (l.take (j + 1))) := by show OwnsN _ _ _ _ _; rw [HR.out]; exact ownsN_succ hown5
        have B5 : Ext w w5 := (he.trans ((Ext.refl _).alloc _)).trans' (hend5.below (n := w.heap.size) (by have := he.size; simp; omega) HN.out) (Nat.le_refl _)
        clear hown5 hend5 HO
        go_wp2
        refine ⟨⟨j + 1, d, v', by go_num, rfl, by omega, HD, by omega, O5, OB5, B5⟩, by simp [intOf]; omega⟩
end Go.Proofs.YtdejgaiocjfhjaaGreatDoor
namespace Go.Proofs.YtdejgaiocjfhjaaGreatDoor
open Go.RowKit
open Go.Lib (decDigits itoa)
theorem dec_len19 {n : Nat} (h : n ≤ 9223372036854775808) : (decDigits n).length ≤ 19 := (digits_len_le n 19 (by omega)).2 (by omega)
theorem itoa_len {n : Int} (h1 : -9223372036854775808 ≤ n) (h2 : n ≤ 9223372036854775807) : (itoa n).length ≤ 20 := by
  rw [itoa_eq]
  have := dec_len19 (n := n.natAbs) (by omega)
  split
  · rw [List.length_cons]; omega
  · omega
set_option maxHeartbeats 4000000 in
set_option maxRecDepth 100000 in
theorem textI_any (n : Int) (w : World) (h1 : -9223372036854775808 ≤ n) (h2 : n ≤ 9223372036854775807) :
    Calls Tryz.prog 98 #[.int .i64 n] w fun e w' => e = .returned (txt (itoa n)) ∧ Ext w w' := by
  by_cases hn : n < 0
  · have hit : itoa n = 45 :: decDigits n.natAbs := by rw [itoa_eq, if_pos hn]
    obtain ⟨x, hx⟩ : ∃ x : Nat, x = (-(n + 1)).natAbs := ⟨_, rfl⟩
    have hxn : n.natAbs = x + 1 := by omega
    have hw1 : IntKind.i64.wrap (n + 1) = n + 1 := by rw [IntKind.wrap_i64]; omega
    have hw2 : IntKind.i64.wrap (-(n + 1)) = (x : Int) := by rw [IntKind.wrap_i64]; omega
    have hw3 : -(n + 1) = (x : Int) := by omega
    have hw4 : IntKind.i64.wrap (x : Int) = (x : Int) := by rw [IntKind.wrap_i64]; omega
    have hl1 : (toB 1000000 x).length ≤ 100 := Nat.le_trans (toB_len (by omega) 4 (by omega)) (by omega)
    have hl2 : (toB 1000000 (x + 1)).length ≤ 110 := Nat.le_trans (toB_len (by omega) 4 (by omega)) (by omega)
    have HL := Lib.hid (fun W => longR_any x (by omega) W)
    have hdl := dec_len19 (n := x + 1) (by omega)
    have H1 : Hid ([1] = toB 1000000 1) := (toB_one (by omega) (by omega) (by omega)).symm
    have happ := app_txt [45] (decDigits (x + 1))
    have hcat : ¬ 9223372036854775807 < 1 + (decDigits (x + 1)).length := by omega
    have HD := Lib.hid (fun W a c (h : CellsN .i64 W a (toB 1000000 (x + 1))) => digitsR_any (x + 1) _ a c W rfl hl2 h)
    rw [hit, hxn]
    clear hx hxn hit
    generalize decDigits (x + 1) = D at *
    go_enter Tryz.func98, Tryz.ntmps98
    go_wp2_with (go_at_call 137; refine (HL.out _).mono ?_; rintro e w5 ⟨v5, rfl, o5, n5, e5⟩)
    obtain ⟨a5, c5, rfl, oc5, _, _⟩ := o5.reads
    have C5 := Lib.hid (oc5.ext ((Ext.refl w5).alloc (.cells #[.int .i64 (1 : Nat)] 3)))
    clear o5 n5 oc5
    go_wp2_with (go_at_call 136; refine (plusR_any x 1 _ [1] a5 _ c5 1 _ rfl H1.out (by omega) (by simp) C5.out (cells_one' 1 w5)).mono ?_; rintro e w6 ⟨v6, rfl, o6, n6, e6⟩)
    obtain ⟨a6, c6, rfl, oc6, _, _⟩ := o6.reads
    have E6 : Ext w w6 := (e5.trans ((Ext.refl _).alloc _)).trans e6
    have HT := Lib.hid (HD.out w6 a6 c6 oc6)
    clear o6 n6 oc6 e6 e5 C5
    go_wp2_with ((go_at_call 135; (with_reducible refine (HT.out).mono ?_); rintro e w1 ⟨rfl, hE⟩))
    go_ret
    exact ⟨rfl, E6.trans hE⟩
  · have hit : itoa n = decDigits n.natAbs := by rw [itoa_eq, if_neg hn]
    obtain ⟨x, rfl⟩ : ∃ x : Nat, n = (x : Int) := ⟨n.toNat, by omega⟩
    have hl2 : (toB 1000000 x).length ≤ 110 := Nat.le_trans (toB_len (by omega) 4 (by omega)) (by omega)
    have HL := Lib.hid (fun W => longR_any x (by omega) W)
    have HD := Lib.hid (fun W a c (h : CellsN .i64 W a (toB 1000000 x)) => digitsR_any x _ a c W rfl hl2 h)
    rw [hit, Int.natAbs_natCast]
    clear hit
    go_enter Tryz.func98, Tryz.ntmps98
    go_wp2_with (go_at_call 137; refine (HL.out _).mono ?_; rintro e w5 ⟨v5, rfl, o5, n5, e5⟩)
    obtain ⟨a5, c5, rfl, oc5, _, _⟩ := o5.reads
    have HT := Lib.hid (HD.out w5 a5 c5 oc5)
    clear o5 n5 oc5
    go_wp2_with ((go_at_call 135; (with_reducible refine (HT.out).mono ?_); rintro e w1 ⟨rfl, hE⟩))
    go_ret
    exact ⟨rfl, e5.trans hE⟩
set_option maxHeartbeats 4000000 in
theorem ofR_any (m n : Int) (w : World) (h1 : -9223372036854775808 ≤ m) (h2 : m ≤ 9223372036854775807) (h3 : -9223372036854775808 ≤ n) (h4 : n ≤ 9223372036854775807) :
    Calls Tryz.prog 97 #[.int .i64 m, .int .i64 n] w (ResP (makeR (itoa m) (itoa n)) w) := by
  have HM := Lib.hid (fun W => textI_any m W h1 h2)
  have HN := Lib.hid (fun W => textI_any n W h3 h4)
  have l1 := itoa_len h1 h2
  have l2 := itoa_len h3 h4
  have HK := Lib.hid (fun W => makeR_any (itoa m) (itoa n) W (by omega) (by omega))
  go_enter Tryz.func97, Tryz.ntmps97
  go_wp2_with (go_at_call 98; have hh := HM; clear HM; refine (hh.out _).mono ?_; clear hh; rintro e w5 ⟨rfl, e5⟩)
  go_wp2_with (go_at_call 98; refine (HN.out _).mono ?_; rintro e w6 ⟨rfl, e6⟩)
  have E6 := e5.trans e6
  clear e5 e6
  go_wp2_with (go_at_call 134; refine (HK.out _).mono ?_; rintro e w7 ⟨rfl, e7⟩)
  go_ret2
  exact ⟨rfl, E6.trans e7⟩
end Go.Proofs.YtdejgaiocjfhjaaGreatDoor
namespace Go.Proofs.YtdejgaiocjfhjaaGreatDoor
open Go.Lib (decDigits itoa)
theorem Good.div {K L : Nat} {s t : Txt} {q r : Rat} (h : Good K s q) (k : Good L t r) (hK : K + (L + 1) ≤ 60) (hr : r ≠ 0) : divS s t = (fracT (q / r), 0) ∧ Good (K + (L + 1)) (fracT (q / r)) (q / r) := by
  obtain ⟨h1, h2⟩ := Good.of (h.fit.div k.fit) hK
  refine ⟨?_, h2⟩
  unfold divS ifOk
  rw [if_pos (h.both k), if_neg (fun e => hr (k.zero.1 e)), h.val, k.val, h1]
end Go.Proofs.YtdejgaiocjfhjaaGreatDoor
namespace Go.Proofs.YtdejgaiocjfhjaaGreatDoor
open Go.RowKit
open Go.Lib (decDigits itoa)
set_option maxHeartbeats 2000000 in
theorem rShort_any (s : Txt) (w : World) : Calls Tryz.prog 122 #[txt s] w fun e w' => e = .returned (.bool (decide (s.length ≤ 10))) ∧ w' = w := by
  have HB : Hid (decide ((s.length : Int) ≤ 10) = decide (s.length ≤ 10)) := by
    show _ = _
    exact decide_eq_decide.2 (by omega)
  go_enter Tryz.func122, Tryz.ntmps122
  go_wp2
  go_ret
  exact ⟨ret_bool HB.out, rfl⟩
end Go.Proofs.YtdejgaiocjfhjaaGreatDoor
namespace Go.Proofs.YtdejgaiocjfhjaaGreatDoor
open Go.RowKit Go.ChangeShapes Go.WideShapes Go.Joins Go.Deep
section
variable {H : Type} {enc : TypeId × Value → H} {w : World} {base : Nat} {spare : Nat → Bool} {held : Bool}
theorem cellsOfU8 : Tryz.prog.cellsOf 5 = 1 := by kernel_rfl
theorem byte_bd {n : Int} (h : (Lit.int .u8 n).wf = true) : ∃ k : Nat, n = (k : Int) ∧ k ≤ 255 := by
  simp only [Lit.wf, Bool.and_eq_true, decide_eq_true_eq] at h
  have h1 : IntKind.u8.min = 0 := by decide
  have h2 : IntKind.u8.max = 255 := by decide
  rw [h1, h2] at h
  exact ⟨n.toNat, by omega, by omega⟩
theorem list2b {α : Type} {l : List α} (h : l.length = 2) : ∃ a b, l = [a, b] := by
  match l, h with
  | [a, b], _ => exact ⟨a, b, rfl⟩
set_option maxRecDepth 100000 in
theorem open_bytes2 {r : Reach} {b0 : Nat} {v : Value} {d : DataW H} {p : List MemPlace} (hv : Value.okWide Tryz.prog w r b0 63 v) (h : DataW.Trod enc Tryz.prog w base spare held 63 v d p) :
    ∃ k l : Nat, v = .agg #[.int .u8 (k : Int), .int .u8 (l : Int)] ∧ k ≤ 255 ∧ l ≤ 255 := by
  simp only [Value.okWide, Tryz.underlying63] at hv
  obtain ⟨cs, rfl, _, _⟩ := hv
  obtain ⟨fuel, hf⟩ := h
  obtain ⟨xs, m, _, _, hl, hxs, hx⟩ := DataW.trod_array Tryz.underlying63 hf
  have hl2 : cs.toList.length = 2 := hl.trans (by kernel_rfl)
  obtain ⟨a, b, hcs⟩ := list2b hl2
  have hc : (Value.agg cs).cells.toList = [a, b] := hcs
  rw [hc, cellsOfU8] at hx
  have get : ∀ i, i < 2 → ∃ y, xs[i]? = some y := fun i hi => ⟨xs[i], List.getElem?_eq_getElem (by omega)⟩
  obtain ⟨y0, g0⟩ := get 0 (by omega)
  have k0 := hx 0 (by omega)
  rw [g0] at k0
  obtain ⟨x0, e0, _, w0⟩ := DataW.trod_int Tryz.underlying5 k0
  simp at e0
  subst e0
  obtain ⟨y1, g1⟩ := get 1 (by omega)
  have k1 := hx 1 (by omega)
  rw [g1] at k1
  obtain ⟨x1, e1, _, w1⟩ := DataW.trod_int Tryz.underlying5 k1
  simp at e1
  subst e1
  obtain ⟨k, rfl, hk⟩ := byte_bd w0
  obtain ⟨l, rfl, hl⟩ := byte_bd w1
  refine ⟨k, l, ?_, hk, hl⟩
  congr 1
  apply Array.ext'
  exact hcs
end
end Go.Proofs.YtdejgaiocjfhjaaGreatDoor
namespace Go.Proofs.YtdejgaiocjfhjaaGreatDoor
open Go.Lib (decDigits itoa)
theorem GoodE.div {K L : Nat} {a b : Enc} {p q r s : Rat} (h : GoodE K a p q) (k : GoodE L b r s) (hK : K + (L + 1) ≤ 60) (h0 : has0 b = false) :
    divE a b = (encT (quotLo a b) (quotHi a b), 0) ∧ GoodE (K + (L + 1)) (encT (quotLo a b) (quotHi a b)) (quotLo a b) (quotHi a b) := by
  have e1 := h.lo.val
  have e2 := h.hi.val
  have e3 := k.lo.val
  have e4 := k.hi.val
  have f1 : FitB (K + (L + 1)) (quotLo a b) := by
    unfold quotLo; rw [e1, e2, e3, e4]
    exact fit_lo4 (h.lo.fit.div k.lo.fit) (h.lo.fit.div k.hi.fit) (h.hi.fit.div k.lo.fit) (h.hi.fit.div k.hi.fit)
  have f2 : FitB (K + (L + 1)) (quotHi a b) := by
    unfold quotHi; rw [e1, e2, e3, e4]
    exact fit_hi4 (h.lo.fit.div k.lo.fit) (h.lo.fit.div k.hi.fit) (h.hi.fit.div k.lo.fit) (h.hi.fit.div k.hi.fit)
  obtain ⟨h1, h2⟩ := GoodE.of f1 f2 hK (quot_le a b)
  refine ⟨?_, h2⟩
  unfold divE
  rw [if_neg (not_not_intro (h.both k)), if_neg (by rw [h0]; simp), h1]
theorem GoodE.within {K L : Nat} {a b : Enc} {p q r s : Rat} (h : GoodE K a p q) (k : GoodE L b r s) (h1 : r ≤ p) (h2 : q ≤ s) : withinE a b = (true, 0) := by
  unfold withinE
  rw [if_neg (not_not_intro (h.both k)), decide_eq_true, decide_eq_true]
  · rfl
  · rw [ord_le', h.hi.val, k.hi.val]; exact h2
  · rw [ord_le', h.lo.val, k.lo.val]; exact h1
def withinQ (p q : Rat) (k : Nat) : Rat := p + (k : Rat) / (255 : Nat) * (q - p)
theorem within_le {p q : Rat} (h : p ≤ q) {k : Nat} (hk : k ≤ 255) : p ≤ withinQ p q k ∧ withinQ p q k ≤ q := by
  unfold withinQ
  have hk0 : (0 : Rat) ≤ (k : Rat) := by exact_mod_cast Nat.zero_le k
  have hk1 : (k : Rat) ≤ ((255 : Nat) : Rat) := by exact_mod_cast hk
  generalize (k : Rat) = c at *
  have h1 := Rat.mul_nonneg hk0 (show 0 ≤ q - p by grind)
  have h2 := Rat.mul_nonneg (show 0 ≤ ((255 : Nat) : Rat) - c by grind) (show 0 ≤ q - p by grind)
  have e : c / ((255 : Nat) : Rat) * (q - p) * ((255 : Nat) : Rat) = c * (q - p) := by grind
  generalize c / ((255 : Nat) : Rat) * (q - p) = x at *
  constructor <;> grind
end Go.Proofs.YtdejgaiocjfhjaaGreatDoor
namespace Go.Proofs.YtdejgaiocjfhjaaGreatDoor
open Go.Lib (decDigits itoa)
theorem within_fit {p q : Rat} (hp : FitB 10 p) (hq : FitB 10 q) {k : Nat} (hk : k ≤ 255) : FitB 23 (withinQ p q k) := by
  have e : withinQ p q k = mkRat (p.num * q.den * 255 + k * (q.num * p.den - p.num * q.den)) (255 * (p.den * q.den)) := by
    rw [Rat.mkRat_eq_div]
    have h1 := num_den p
    have h2 := num_den q
    have hd : (p.den : Rat) ≠ 0 := by exact_mod_cast p.den_nz
    have hd2 : (q.den : Rat) ≠ 0 := by exact_mod_cast q.den_nz
    have e1 : ((p.num * q.den * 255 + k * (q.num * p.den - p.num * q.den) : Int) : Rat) = (p.num : Rat) * (q.den : Rat) * 255 + (k : Rat) * ((q.num : Rat) * (p.den : Rat) - (p.num : Rat) * (q.den : Rat)) := by
      push_cast; rfl
    have e2 : ((255 * (p.den * q.den) : Nat) : Rat) = 255 * ((p.den : Rat) * (q.den : Rat)) := by push_cast; rfl
    rw [e1, e2, h1, h2]
    unfold withinQ
    have e3 : ((255 : Nat) : Rat) = 255 := rfl
    rw [e3]
    grind
  rw [e]
  have h1 := pow_mul_lt hp.1 hq.2
  have h2 := pow_mul_lt hq.1 hp.2
  have h3 := pow_mul_lt hp.2 hq.2
  refine fit_mk ?_ ?_ ?_
  · exact Nat.mul_ne_zero (by omega) (Nat.mul_ne_zero p.den_nz q.den_nz)
  · have a1 := Int.natAbs_add_le (p.num * q.den * 255) (k * (q.num * p.den - p.num * q.den))
    have a2 := Int.natAbs_sub_le (q.num * p.den) (p.num * q.den)
    rw [Int.natAbs_mul (p.num * q.den), Int.natAbs_mul (k : Int)] at a1
    simp only [Int.natAbs_mul, Int.natAbs_natCast] at a1 a2
    have a3 := Nat.mul_le_mul hk a2
    generalize (q.num * p.den - p.num * q.den).natAbs = z at *
    generalize p.num.natAbs * q.den = x at *
    generalize q.num.natAbs * p.den = y at *
    have a4 := Nat.mul_le_mul hk (Nat.le_refl z)
    simp only [show (255 : Int).natAbs = 255 from rfl] at a1
    have e5 : (10 : Nat) ^ (10 + 10) = 100000000000000000000 := by decide
    have e6 : (10 : Nat) ^ 23 = 100000000000000000000000 := by decide
    rw [e5] at *
    rw [e6]
    omega
  · generalize p.den * q.den = x at *
    have e5 : (10 : Nat) ^ (10 + 10) = 100000000000000000000 := by decide
    have e6 : (10 : Nat) ^ 23 = 100000000000000000000000 := by decide
    rw [e5] at *
    rw [e6]
    omega
def withinT (a : Enc) (k : Nat) : Txt := fracT (withinQ (fracQ a.1) (fracQ a.2) k)
theorem ShortR.within {a : Enc} (h : ShortR a) {k : Nat} (hk : k ≤ 255) : Good 23 (withinT a k) (withinQ (fracQ a.1) (fracQ a.2) k) :=
  (Good.of (within_fit h.good.lo.fit h.good.hi.fit hk) (by omega)).2
theorem prod_in {p q r s x y : Rat} (h1 : p ≤ x) (h2 : x ≤ q) (k1 : r ≤ y) (k2 : y ≤ s) : lo4 (p * r) (p * s) (q * r) (q * s) ≤ x * y ∧ x * y ≤ hi4 (p * r) (p * s) (q * r) (q * s) := by
  obtain ⟨a1, a2, a3, a4, _⟩ := lo4_le (p * r) (p * s) (q * r) (q * s)
  obtain ⟨b1, b2, b3, b4, _⟩ := le_hi4 (p * r) (p * s) (q * r) (q * s)
  generalize lo4 (p * r) (p * s) (q * r) (q * s) = m at *
  generalize hi4 (p * r) (p * s) (q * r) (q * s) = M at *
  have key : ∀ z, m ≤ z * r → m ≤ z * s → z * r ≤ M → z * s ≤ M → m ≤ z * y ∧ z * y ≤ M := fun z c1 c2 c3 c4 => by
    rcases (Rat.le_total : 0 ≤ z ∨ z ≤ 0) with hz | hz
    · have d1 := mul_le k1 hz
      have d2 := mul_le k2 hz
      grind
    · have d1 := mul_ge k1 hz
      have d2 := mul_ge k2 hz
      grind
  obtain ⟨c1, c2⟩ := key p a1 a2 b1 b2
  obtain ⟨c3, c4⟩ := key q a3 a4 b3 b4
  rcases (Rat.le_total : 0 ≤ y ∨ y ≤ 0) with hz | hz
  · have d1 := mul_le h1 hz
    have d2 := mul_le h2 hz
    grind
  · have d1 := mul_ge h1 hz
    have d2 := mul_ge h2 hz
    grind
end Go.Proofs.YtdejgaiocjfhjaaGreatDoor
namespace Go.Proofs.YtdejgaiocjfhjaaGreatDoor
open Go.Lib (decDigits itoa)
theorem law_add {a b : Enc} (ha : ShortR a) (hb : ShortR b) {k l : Nat} (hk : k ≤ 255) (hl : l ≤ 255) : InR (addE a b) (addS (withinT a k) (withinT b l)) := by
  obtain ⟨h1, h2⟩ := ha.good.add hb.good (by omega)
  obtain ⟨k1, k2⟩ := (ha.within hk).add (hb.within hl) (by omega)
  have w1 := within_le ha.good.le hk
  have w2 := within_le hb.good.le hl
  rw [h1, k1]
  exact ⟨rfl, rfl, h2.contains k2 (add_le w1.1 w2.1) (add_le w1.2 w2.2), h2.len, k2.len⟩
theorem law_sub {a b : Enc} (ha : ShortR a) (hb : ShortR b) {k l : Nat} (hk : k ≤ 255) (hl : l ≤ 255) : InR (subE a b) (subS (withinT a k) (withinT b l)) := by
  obtain ⟨h1, h2⟩ := ha.good.sub hb.good (by omega)
  obtain ⟨k1, k2⟩ := (ha.within hk).sub (hb.within hl) (by omega)
  have w1 := within_le ha.good.le hk
  have w2 := within_le hb.good.le hl
  rw [h1, k1]
  exact ⟨rfl, rfl, h2.contains k2 (sub_le w1.1 w2.2) (sub_le w1.2 w2.1), h2.len, k2.len⟩
theorem law_mul {a b : Enc} (ha : ShortR a) (hb : ShortR b) {k l : Nat} (hk : k ≤ 255) (hl : l ≤ 255) : InR (mulE a b) (mulS (withinT a k) (withinT b l)) := by
  obtain ⟨h1, h2⟩ := ha.good.mul hb.good (by omega)
  obtain ⟨k1, k2⟩ := (ha.within hk).mul (hb.within hl) (by omega)
  have w1 := within_le ha.good.le hk
  have w2 := within_le hb.good.le hl
  have w := prod_in w1.1 w1.2 w2.1 w2.2
  rw [h1, k1]
  exact ⟨rfl, rfl, h2.contains k2 w.1 w.2, h2.len, k2.len⟩
theorem law_div {a b : Enc} (ha : ShortR a) (hb : ShortR b) (h0 : has0 b = false) {k l : Nat} (hk : k ≤ 255) (hl : l ≤ 255) : InR (divE a b) (divS (withinT a k) (withinT b l)) := by
  obtain ⟨h1, h2⟩ := ha.good.div hb.good (by omega) h0
  have w1 := within_le ha.good.le hk
  have w2 := within_le hb.good.le hl
  have hn := has0_not h0 hb.1
  obtain ⟨k1, k2⟩ := (ha.within hk).div (hb.within hl) (by omega) (by grind)
  obtain ⟨t1, _, t3, t4⟩ := turn_right hb.1 h0
  obtain ⟨q1, q2⟩ := turn_prod (a := a) hb.1 h0
  have i1 := inv_le w2.1 (by grind)
  have i2 := inv_le w2.2 (by grind)
  have w := prod_in w1.1 w1.2 i2 i1
  rw [h1, k1]
  refine ⟨rfl, rfl, h2.contains k2 ?_ ?_, h2.len, k2.len⟩
  · rw [← q1]; unfold prodLo; rw [t3, t4, div_mul_one (x := withinQ (fracQ a.1) (fracQ a.2) k)]; exact w.1
  · rw [← q2]; unfold prodHi; rw [t3, t4, div_mul_one (x := withinQ (fracQ a.1) (fracQ a.2) k)]; exact w.2
theorem law_zero {a b : Enc} (ha : ShortR a) (hb : ShortR b) (h0 : has0 b = true) : divE a b = badEnc 10 ∧ containsE b [48] = (true, 0) := by
  unfold has0 at h0
  simp only [Bool.and_eq_true, decide_eq_true_eq] at h0
  refine ⟨?_, hb.good.contains zero_good h0.1 h0.2⟩
  unfold divE has0
  rw [if_neg (not_not_intro (ha.good.both hb.good)), if_pos (by simp [h0])]
end Go.Proofs.YtdejgaiocjfhjaaGreatDoor
namespace Go.Proofs.YtdejgaiocjfhjaaGreatDoor
open Go.RowKit
def shortE (a : Enc) : Bool := decide (a.1.length ≤ 10) && decide (a.2.length ≤ 10)
set_option maxHeartbeats 4000000 in
theorem short2_any (a : Enc) (w : World) : Calls Tryz.prog 87 #[encV a] w fun e w' => e = .returned (.bool (shortE a)) ∧ Ext w w' := by
  obtain ⟨l, h⟩ := a
  have H1 := Lib.hid (fun W => rShort_any l W)
  have H2 := Lib.hid (fun W => rShort_any h W)
  unfold shortE
  dsimp only [encV] at *
  generalize decide (l.length ≤ 10) = b1 at *
  generalize decide (h.length ≤ 10) = b2 at *
  have E : Ext w (w.alloc (.cells #[txt l, txt h] 24)) := extA
  cases b1
  · go_enter Tryz.func87, Tryz.ntmps87
    go_wp2_with (go_at_call 122; refine (H1.out _).mono ?_; rintro e w' ⟨rfl, rfl⟩)
    go_ret
    exact ⟨rfl, E⟩
  · cases b2
    all_goals
      go_enter Tryz.func87, Tryz.ntmps87
      go_wp2_with fail
      refine (H1.out _).mono ?_
      clear H1
      rintro e w' ⟨rfl, hw⟩; obtain rfl := hw.symm; clear hw
      go_wp2_with fail
      refine (H2.out _).mono ?_
      rintro e w' ⟨rfl, hw⟩; obtain rfl := hw.symm; clear hw
      go_wp2_with fail
      go_ret
      exact ⟨rfl, E⟩
end Go.Proofs.YtdejgaiocjfhjaaGreatDoor
namespace Go.Proofs.YtdejgaiocjfhjaaGreatDoor
open Go.RowKit
open Go.Lib (decDigits itoa)
def okE (a : Enc) : Bool := shortE a && (encE a == 0)
theorem okE_short {a : Enc} (h : okE a = true) : ShortR a := by
  unfold okE shortE at h
  simp only [Bool.and_eq_true, decide_eq_true_eq, beq_iff_eq] at h
  exact ⟨h.2, h.1.1, h.1.2⟩
theorem all_dropE {l : List Enc} {k : Nat} (h : k < l.length) : (l.drop k).all okE = (okE (l.getD k ([], [])) && (l.drop (k + 1)).all okE) := by
  rw [List.drop_eq_getElem_cons h, getD_enc h, List.all_cons]
set_option maxHeartbeats 4000000 in
set_option maxRecDepth 100000 in
theorem lawRight_any (l : List Enc) (a : Option Addr) (cap : Nat) (w : World) (hc : CellsE w a l) (hm : l.length ≤ 1000) :
    Calls Tryz.prog 36 #[.slice a l.length cap] w fun e w' => e = .returned (.bool (l.all okE)) ∧ Ext w w' := by
  have HC := Lib.hid hc
  obtain ⟨S, hS⟩ : ∃ S, S = l.all okE := ⟨_, rfl⟩
  have HS := Lib.hid hS
  rw [← hS]
  clear hc hS
  go_enter Tryz.func36, Tryz.ntmps36
  go_wp2
  go_loopw [7] (fun i wr => ∃ k : Nat, k ≤ l.length ∧ i = .int .i64 k ∧ Hid (S = (l.drop k).all okE) ∧ Ext w wr) (fun i _ => l.length - (intOf i).toNat)
  case atStart => exact ⟨0, by omega, rfl, HS.out, Ext.refl _⟩
  case round =>
    obtain ⟨k, hk, rfl, HE, he⟩ := hrel
    by_cases hlt : k < l.length
    · have hki : (k : Int) < (l.length : Int) := by omega
      have hkw : IntKind.i64.wrap ((k : Int) + 1) = (k : Int) + 1 := by rw [IntKind.wrap_i64]; omega
      obtain ⟨b, off, ha, hc1, hc2⟩ := HC.out.ext he k hlt
      subst ha
      have hst := HE.out.trans (all_dropE hlt)
      generalize l.getD k ([], []) = x at hc1 hc2 hst
      have H1 := Lib.hid (fun W => short2_any x W)
      have H2 : Hid (shortE x = true → ∀ W, Calls Tryz.prog 45 #[encV x] W fun e w' => e = .returned (.int .i64 (encE x : Nat)) ∧ Ext W w') := fun h W => rCheck2_any x W (by
        unfold shortE at h
        simp only [Bool.and_eq_true, decide_eq_true_eq] at h
        exact ⟨by omega, by omega⟩)
      unfold okE at hst
      generalize shortE x = sh at *
      generalize encE x = n at *
      obtain ⟨x1, x2⟩ := x
      dsimp only [encV] at hc1 hc2 H1 H2
      have P := encAt_new wr wr.heap.size rfl x1 x2 24
      have EA : Ext wr (wr.alloc (.cells #[txt x1, txt x2] 24)) := extA
      have E := he.trans EA
      clear EA HE
      cases sh
      · have HR : Hid (S = false) := by show _ = _; rw [hst]; rfl
        clear hst
        go_wp2_with fail
        refine (H1.out _).mono ?_
        rintro e w1 ⟨rfl, hE⟩
        replace E := E.trans hE
        go_wp2_with fail
        go_ret
        exact ⟨by rw [HR.out]; rfl, E⟩
      · have H2b : Hid (∀ W, Calls Tryz.prog 45 #[.agg #[txt x1, txt x2]] W fun e w' => e = .returned (.int .i64 (n : Nat)) ∧ Ext W w') := H2.out rfl
        clear H2
        go_wp2_with fail
        generalize (wr.alloc (.cells #[txt x1, txt x2] 24)) = wb at P E ⊢
        obtain ⟨nb, hnb⟩ : ∃ nb, nb = wr.heap.size := ⟨_, rfl⟩
        rw [← hnb] at P ⊢
        clear hnb hc1 hc2
        refine (H1.out _).mono ?_
        clear H1
        rintro e w1 ⟨rfl, hE⟩
        replace E := E.trans hE
        obtain ⟨p0, p1, _, _⟩ := P.ext hE
        clear hE P
        go_wp2_with fail
        refine (H2b.out _).mono ?_
        clear H2b p0 p1
        rintro e w2 ⟨rfl, hE⟩
        replace E := E.trans hE
        clear hE
        by_cases hn : n = 0
        · subst hn
          have HE2 : Hid (S = (l.drop (k + 1)).all okE) := by show _ = _; rw [hst]; rfl
          have hne : (((0 : Nat) : Int) != 0) = false := rfl
          clear hst
          go_wp2
          refine ⟨⟨k + 1, by omega, by go_num, HE2, E⟩, by simp [intOf]; omega⟩
        · have hne : (((n : Nat) : Int) != 0) = true := by rw [bne_iff_ne]; omega
          have hb : (n == 0) = false := by rw [beq_eq_false_iff_ne]; exact hn
          have HR : Hid (S = false) := by show _ = _; rw [hst, hb]; rfl
          clear hst hb
          go_wp2
          go_ret
          exact ⟨by rw [HR.out]; rfl, E⟩
    · have hki : ¬ (k : Int) < (l.length : Int) := by omega
      have HR : Hid (S = true) := by show _ = _; rw [HE.out, List.drop_eq_nil_of_le (by omega)]; rfl
      clear HE
      go_wp2
      go_ret
      exact ⟨by rw [HR.out]; rfl, he⟩
theorem right_two (a b : Enc) (W : World) (t : TypeId) (n : Nat) (v : World) (hn : n = v.heap.size) (hW : W = v.alloc (.cells #[txt a.1, txt a.2, txt b.1, txt b.2] t)) :
    Calls Tryz.prog 36 #[.slice (some ⟨n, 0, none⟩) 2 2] W fun e w' => e = .returned (.bool (okE a && okE b)) ∧ Ext W w' := by
  subst hn
  have k := lawRight_any [a, b] (some ⟨v.heap.size, 0, none⟩) 2 W (by rw [hW]; exact pair_enc v a b _) (by simp)
  have e : [a, b].all okE = (okE a && okE b) := by simp
  rw [e] at k
  exact k
theorem rPlus_any (a b : Txt) (w : World) (ha : a.length ≤ 400) (hb : b.length ≤ 400) : Calls Tryz.prog 90 #[txt a, txt b] w fun e w' => e = .returned (txt (addS a b).1) ∧ Ext w w' := by
  have H := Lib.hid (rAdd_any a b w ha hb)
  generalize addS a b = r at *
  obtain ⟨r, re⟩ := r
  unfold ResP at H
  go_enter Tryz.func90, Tryz.ntmps90
  go_wp2_with (go_at_call 81; refine H.out.mono ?_; rintro e w1 ⟨rfl, hE⟩)
  go_ret
  exact ⟨rfl, hE⟩
theorem rMinus_any (a b : Txt) (w : World) (ha : a.length ≤ 400) (hb : b.length ≤ 400) : Calls Tryz.prog 91 #[txt a, txt b] w fun e w' => e = .returned (txt (subS a b).1) ∧ Ext w w' := by
  have H := Lib.hid (rSub_any a b w ha hb)
  generalize subS a b = r at *
  obtain ⟨r, re⟩ := r
  unfold ResP at H
  go_enter Tryz.func91, Tryz.ntmps91
  go_wp2_with (go_at_call 78; refine H.out.mono ?_; rintro e w1 ⟨rfl, hE⟩)
  go_ret
  exact ⟨rfl, hE⟩
theorem rTimes_any (a b : Txt) (w : World) (ha : a.length ≤ 400) (hb : b.length ≤ 400) : Calls Tryz.prog 61 #[txt a, txt b] w fun e w' => e = .returned (txt (mulS a b).1) ∧ Ext w w' := by
  have H := Lib.hid (rMul_any a b w ha hb)
  generalize mulS a b = r at *
  obtain ⟨r, re⟩ := r
  unfold ResP at H
  go_enter Tryz.func61, Tryz.ntmps61
  go_wp2_with (go_at_call 75; refine H.out.mono ?_; rintro e w1 ⟨rfl, hE⟩)
  go_ret
  exact ⟨rfl, hE⟩
theorem over_good {k : Nat} (hk : k ≤ 255) : makeR (itoa k) (itoa 255) = (fracT ((k : Rat) / ((255 : Nat) : Rat)), 0) ∧ Good 4 (fracT ((k : Rat) / ((255 : Nat) : Rat))) ((k : Rat) / ((255 : Nat) : Rat)) := by
  have h1 := int_good (n := (k : Int)) (K := 3) (by omega) (by omega) (by simp; omega)
  have h2 := int_good (n := 255) (K := 3) (by omega) (by omega) (by decide)
  have hf : FitB 4 ((k : Rat) / ((255 : Nat) : Rat)) := by
    rw [show ((k : Nat) : Rat) / ((255 : Nat) : Rat) = mkRat (k : Int) 255 by rw [Rat.mkRat_eq_div]; rfl]
    exact fit_mk (by omega) (by simp; omega) (by omega)
  obtain ⟨g1, g2⟩ := Good.of hf (by omega)
  refine ⟨?_, g2⟩
  have i1 := int_of (k : Int)
  have i2 := int_of 255
  have n1 : intE (itoa (k : Int)) = 0 := intE_of (by simp; omega)
  have n2 : intE (itoa 255) = 0 := intE_of (by decide)
  have nz : itoa 255 ≠ [48] := fun e => by
    have := (int_zero i2.1).1 e
    rw [i2.2] at this
    cases this
  unfold makeR ifOk
  rw [if_pos n1, if_pos n2, if_neg nz, i1.2, i2.2, ← g1]
  congr 2
theorem rOver_any (k : Nat) (w : World) (hk : k ≤ 255) : Calls Tryz.prog 55 #[.int .i64 (k : Int), .int .i64 255] w fun e w' => e = .returned (txt (fracT ((k : Rat) / ((255 : Nat) : Rat)))) ∧ Ext w w' := by
  have H := Lib.hid (ofR_any (k : Int) 255 w (by omega) (by omega) (by omega) (by omega))
  rw [(over_good hk).1] at H
  generalize fracT ((k : Rat) / ((255 : Nat) : Rat)) = r at *
  unfold ResP at H
  go_enter Tryz.func55, Tryz.ntmps55
  go_wp2_with (go_at_call 97; refine H.out.mono ?_; rintro e w1 ⟨rfl, hE⟩)
  go_ret
  exact ⟨rfl, hE⟩
set_option maxHeartbeats 4000000 in
set_option maxRecDepth 100000 in
theorem lawWithin_any (a : Enc) (k : Nat) (w : World) (ha : ShortR a) (hk : k ≤ 255) : Calls Tryz.prog 46 #[encV a, .int .u8 (k : Int)] w fun e w' => e = .returned (txt (withinT a k)) ∧ Ext w w' := by
  obtain ⟨o1, o2⟩ := over_good hk
  have g := ha.good
  obtain ⟨m1, m2⟩ := g.hi.sub g.lo (by omega)
  obtain ⟨t1, t2⟩ := o2.mul m2 (by omega)
  obtain ⟨p1, p2⟩ := g.lo.add t2 (by omega)
  have H1 := Lib.hid (fun W => rOver_any k W hk)
  have H2 := Lib.hid (fun W => rMinus_any a.2 a.1 W g.hi.len g.lo.len)
  have H3 := Lib.hid (fun W => rTimes_any (fracT ((k : Rat) / ((255 : Nat) : Rat))) (fracT (fracQ a.2 - fracQ a.1)) W o2.len m2.len)
  have H4 := Lib.hid (fun W => rPlus_any a.1 (fracT ((k : Rat) / ((255 : Nat) : Rat) * (fracQ a.2 - fracQ a.1))) W g.lo.len t2.len)
  rw [m1] at H2
  rw [t1] at H3
  rw [p1] at H4
  have hT : withinT a k = fracT (fracQ a.1 + (k : Rat) / ((255 : Nat) : Rat) * (fracQ a.2 - fracQ a.1)) := rfl
  rw [hT]
  clear o1 o2 g m1 m2 t1 t2 p1 p2 hT
  dsimp only at H2 H3 H4
  generalize fracT (fracQ a.1 + (k : Rat) / ((255 : Nat) : Rat) * (fracQ a.2 - fracQ a.1)) = r4 at *
  generalize fracT ((k : Rat) / ((255 : Nat) : Rat) * (fracQ a.2 - fracQ a.1)) = r3 at *
  generalize fracT (fracQ a.2 - fracQ a.1) = r2 at *
  generalize fracT ((k : Rat) / ((255 : Nat) : Rat)) = r1 at *
  have hcv : IntKind.i64.wrap (k : Int) = (k : Int) := by rw [IntKind.wrap_i64]; omega
  clear ha
  obtain ⟨l, h⟩ := a
  dsimp only [encV] at *
  have A := encAt_new w w.heap.size rfl l h 24
  have E : Ext w (w.alloc (.cells #[txt l, txt h] 24)) := extA
  have hD : Ext (w.alloc (.cells #[txt l, txt h] 24)) (w.alloc (.cells #[txt l, txt h] 24)).drew := extA
  replace E := E.trans hD
  replace A := A.ext hD
  have hS := And.intro A.c0 A.c1
  go_enter Tryz.func46, Tryz.ntmps46
  go_wp2_with fail
  refine wp_region_heldE 99 (fun w' => w'.cell? ⟨w.heap.size, 0, none⟩ = some (txt l) ∧ w'.cell? ⟨w.heap.size, 1, none⟩ = some (txt h)) (by kernel_rfl) ?_
  generalize (w.alloc (.cells #[txt l, txt h] 24)).drew = v0 at E hS ⊢
  clear A hD
  ((refine eTk 0 ?_); (refine eTk 1 ?_); (refine eTk 2 ?_); (refine eTk 3 ?_); (refine eTk 5 ?_); (refine eTk 6 ?_); (refine eTk 7 ?_); (refine eTk 8 ?_))
  (refine wpAnyE_one (i := 4) (o := ?_) ?_ (by kernel_rfl) (fun K hK => ?_); rotate_left; (focus ((simp only [List.getElem?_toArray, List.getElem?_cons_succ, List.getElem?_cons_zero]; exact rfl))); go_simp; go_at_call 55; refine (H1.out _).mono ?_; rintro e v1 ⟨rfl, hE⟩; go_wp2_with fail; refine hK.out _ _ ?_ (fun hHeld => ?_); rotate_left; clear hK K; (try simp only [Act.put, List.setIfInBounds_toArray, List.set_cons_zero, List.set_cons_succ]))
  rotate_left
  · exact ⟨hE.cell hS.1, hE.cell hS.2⟩
  replace E := E.trans hE
  replace hS := And.intro (hE.cell hS.1) (hE.cell hS.2)
  clear hE hHeld H1
  (refine wpAnyE_one (i := 9) (o := ?_) ?_ (by kernel_rfl) (fun K hK => ?_); rotate_left; (focus ((simp only [List.getElem?_toArray, List.getElem?_cons_succ, List.getElem?_cons_zero]; exact rfl))); go_simp; go_at_call 91; refine (H2.out _).mono ?_; rintro e v2 ⟨rfl, hE⟩; go_wp2_with fail; refine hK.out _ _ ?_ (fun hHeld => ?_); rotate_left; clear hK K; (try simp only [Act.put, List.setIfInBounds_toArray, List.set_cons_zero, List.set_cons_succ]))
  rotate_left
  · exact ⟨hE.cell hS.1, hE.cell hS.2⟩
  replace E := E.trans hE
  replace hS := And.intro (hE.cell hS.1) (hE.cell hS.2)
  clear hE hHeld H2
  (refine wpAnyE_one (i := 10) (o := ?_) ?_ (by kernel_rfl) (fun K hK => ?_); rotate_left; (focus ((simp only [List.getElem?_toArray, List.getElem?_cons_succ, List.getElem?_cons_zero]; exact rfl))); go_simp; go_at_call 61; refine (H3.out _).mono ?_; rintro e v3 ⟨rfl, hE⟩; go_wp2_with fail; refine hK.out _ _ ?_ (fun hHeld => ?_); rotate_left; clear hK K; (try simp only [Act.put, List.setIfInBounds_toArray, List.set_cons_zero, List.set_cons_succ]))
  rotate_left
  · exact ⟨hE.cell hS.1, hE.cell hS.2⟩
  replace E := E.trans hE
  replace hS := And.intro (hE.cell hS.1) (hE.cell hS.2)
  clear hE hHeld H3
  (refine wpAnyE_one (i := 11) (o := ?_) ?_ (by kernel_rfl) (fun K hK => ?_); rotate_left; (focus ((simp only [List.getElem?_toArray, List.getElem?_cons_succ, List.getElem?_cons_zero]; exact rfl))); go_simp; go_at_call 90; refine (H4.out _).mono ?_; rintro e v4 ⟨rfl, hE⟩; go_wp2_with fail; refine hK.out _ _ ?_ (fun hHeld => ?_); rotate_left; clear hK K; (try simp only [Act.put, List.setIfInBounds_toArray, List.set_cons_zero, List.set_cons_succ]))
  rotate_left
  · exact ⟨hE.cell hS.1, hE.cell hS.2⟩
  replace E := E.trans hE
  replace hS := And.intro (hE.cell hS.1) (hE.cell hS.2)
  clear hE hHeld H4
  ((refine ePu 12 ?_))
  refine wpAnyE_done (by kernel_rfl) ?_ _
  go_wp2_with fail
  go_ret
  exact ⟨rfl, E⟩
end Go.Proofs.YtdejgaiocjfhjaaGreatDoor
namespace Go.Proofs.YtdejgaiocjfhjaaGreatDoor
open Go.RowKit
structure ValsAt (b : Nat) (W : World) (p q r s : Value) : Prop where
  c0 : W.cell? ⟨b, 0, none⟩ = some p
  c1 : W.cell? ⟨b, 1, none⟩ = some q
  c2 : W.cell? ⟨b, 2, none⟩ = some r
  c3 : W.cell? ⟨b, 3, none⟩ = some s
theorem ValsAt.ext {b : Nat} {A B : World} {p q r s : Value} (x : ValsAt b A p q r s) (e : Ext A B) : ValsAt b B p q r s := ⟨e.cell x.c0, e.cell x.c1, e.cell x.c2, e.cell x.c3⟩
structure RoundD (f g : Nat) (a b : Enc) (x y : Txt) (w : World) (c1 c2 t : Txt) : Prop where
  e : ∀ W, Ext w W → Calls Tryz.prog f #[encV a, encV b] W (EncP ((c1, c2), 0) W)
  q : ∀ W, Ext w W → Calls Tryz.prog g #[txt x, txt y] W (ResP (t, 0) W)
  c : ∀ W, Ext w W → Calls Tryz.prog 42 #[encV (c1, c2), txt t] W (BoolP true 0 W)
theorem round_data {f g : Nat} {a b : Enc} {x y : Txt} {w : World} {r : EncR} {o : Res} (hG : Glob w) (h : InR r o) (he : ∀ W, Ext w W → Calls Tryz.prog f #[encV a, encV b] W (EncP r W)) (hq : ∀ W, Ext w W → Calls Tryz.prog g #[txt x, txt y] W (ResP o W)) :
    ∃ c1 c2 t, RoundD f g a b x y w c1 c2 t := by
  obtain ⟨⟨c1, c2⟩, e⟩ := r
  obtain ⟨t, z⟩ := o
  have h1 := h.e
  have h2 := h.f
  dsimp only at h1 h2
  subst h1; subst h2
  exact ⟨c1, c2, t, he, hq, fun W g => by have q := eContains_any (c1, c2) t W (hG.ext g) h.l h.m; rw [h.c] at q; exact q⟩
set_option maxHeartbeats 32000000 in
set_option maxRecDepth 100000 in
theorem lawEncloses_any (a b : Enc) (k1 k2 : Nat) (w : World) (hG : Glob w) (h1 : k1 ≤ 255) (h2 : k2 ≤ 255) : Calls Tryz.prog 8 #[encV a, encV b, .agg #[.int .u8 (k1 : Int), .int .u8 (k2 : Int)]] w (TrueP w) := by
  have HG := Lib.hid hG
  clear hG
  have HA : Hid (∀ W, Ext w W → Calls Tryz.prog 15 #[] W fun e w' => e = .returned (.bool true) ∧ Ext W w') := fun W h => awake2_any W (HG.out.ext h)
  have HRT := Lib.hid (fun W v n hn hW => right_two a b W 24 n v hn hW)
  unfold TrueP
  cases hok : (okE a && okE b)
  · rw [hok] at HRT
    obtain ⟨l, h⟩ := a
    obtain ⟨m, q⟩ := b
    dsimp only [encV] at HRT ⊢
    clear hok HG
    have A : EncAt w.heap.size ((((w.alloc (.cells #[txt l, txt h] 24)).alloc (.cells #[txt m, txt q] 24)).alloc (.cells #[.int .u8 (k1 : Int), .int .u8 (k2 : Int)] 63)).alloc (.cells #[txt l, txt h, txt m, txt q] 24)) l h := ⟨by go_simp, by go_simp, by go_simp, by go_simp⟩
    have B : EncAt (w.heap.size + 1) ((((w.alloc (.cells #[txt l, txt h] 24)).alloc (.cells #[txt m, txt q] 24)).alloc (.cells #[.int .u8 (k1 : Int), .int .u8 (k2 : Int)] 63)).alloc (.cells #[txt l, txt h, txt m, txt q] 24)) m q := ⟨by go_simp, by go_simp, by go_simp, by go_simp⟩
    have kc0 : ((((w.alloc (.cells #[txt l, txt h] 24)).alloc (.cells #[txt m, txt q] 24)).alloc (.cells #[.int .u8 (k1 : Int), .int .u8 (k2 : Int)] 63)).alloc (.cells #[txt l, txt h, txt m, txt q] 24)).cell? ⟨w.heap.size + 1 + 1, 0, none⟩ = some (.int .u8 (k1 : Int)) := by go_simp
    have kc1 : ((((w.alloc (.cells #[txt l, txt h] 24)).alloc (.cells #[txt m, txt q] 24)).alloc (.cells #[.int .u8 (k1 : Int), .int .u8 (k2 : Int)] 63)).alloc (.cells #[txt l, txt h, txt m, txt q] 24)).cell? ⟨w.heap.size + 1 + 1, 1, none⟩ = some (.int .u8 (k2 : Int)) := by go_simp
    have E : Ext w ((((w.alloc (.cells #[txt l, txt h] 24)).alloc (.cells #[txt m, txt q] 24)).alloc (.cells #[.int .u8 (k1 : Int), .int .u8 (k2 : Int)] 63)).alloc (.cells #[txt l, txt h, txt m, txt q] 24)) := extA
    go_enter Tryz.func8, Tryz.ntmps8
    go_wp2_with fail
    generalize hQ : ((((w.alloc (.cells #[txt l, txt h] 24)).alloc (.cells #[txt m, txt q] 24)).alloc (.cells #[.int .u8 (k1 : Int), .int .u8 (k2 : Int)] 63)).alloc (.cells #[txt l, txt h, txt m, txt q] 24)) = w0 at A B kc0 kc1 E ⊢
    have HR1 := HRT.out w0 (((w.alloc (.cells #[txt l, txt h] 24)).alloc (.cells #[txt m, txt q] 24)).alloc (.cells #[.int .u8 (k1 : Int), .int .u8 (k2 : Int)] 63)) (w.heap.size + 1 + 1 + 1) (by simp) hQ.symm
    clear HRT hQ
    refine HR1.mono ?_
    clear HR1
    rintro e w1 ⟨rfl, hE⟩
    replace E := E.trans hE
    replace A := A.ext hE
    replace B := B.ext hE
    replace kc0 := hE.cell kc0
    replace kc1 := hE.cell kc1
    clear hE
    clear kc0 kc1
    have A' := A
    have B' := B
    obtain ⟨A0, A1, A2, A3⟩ := A
    have zA := cell_lt A0
    dsimp only at zA
    obtain ⟨B0, B1, B2, B3⟩ := B
    have zB := cell_lt B0
    dsimp only at zB
    go_wp2_with fail
    clear A0 A1 A2 A3 zA B0 B1 B2 B3 zB
    have A := A'
    clear A'
    have B := B'
    clear B'
    refine (HA.out _ E).mono ?_
    rintro e w2 ⟨rfl, hE⟩
    replace E := E.trans hE
    replace A := A.ext hE
    replace B := B.ext hE
    clear hE
    go_wp2_with fail
    go_ret
    exact ⟨rfl, E⟩
  rw [hok] at HRT
  obtain ⟨oa, ob⟩ := Bool.and_eq_true_iff.1 hok
  have ha := okE_short oa
  have hb := okE_short ob
  clear hok oa ob
  have hl := ha.good.len
  have hm := hb.good.len
  have gx := ha.within h1
  have gy := hb.within h2
  have W1 := Lib.hid (fun W => lawWithin_any a k1 W ha h1)
  have W2 := Lib.hid (fun W => lawWithin_any b k2 W hb h2)
  obtain ⟨p0, q0, t0, D0⟩ := round_data (f := 20) (g := 47) (a := a) (b := b) (x := withinT a k1) (y := withinT b k2) HG.out (law_add ha hb h1 h2) (fun W g => eAdd_any a b W (HG.out.ext g) hl hm) (fun W g => add_any _ _ W (HG.out.ext g) gx.len gy.len)
  obtain ⟨p1, q1, t1, D1⟩ := round_data (f := 22) (g := 48) (a := a) (b := b) (x := withinT a k1) (y := withinT b k2) HG.out (law_sub ha hb h1 h2) (fun W g => eSub_any a b W (HG.out.ext g) hl hm) (fun W g => sub_any _ _ W (HG.out.ext g) gx.len gy.len)
  obtain ⟨p2, q2, t2, D2⟩ := round_data (f := 24) (g := 49) (a := a) (b := b) (x := withinT a k1) (y := withinT b k2) HG.out (law_mul ha hb h1 h2) (fun W g => eMul_any a b W (HG.out.ext g) hl hm) (fun W g => mul_any _ _ W (HG.out.ext g) gx.len gy.len)
  have D3 : has0 b = false → ∃ p3 q3 t3, RoundD 26 50 a b (withinT a k1) (withinT b k2) w p3 q3 t3 := fun h0 =>
    round_data HG.out (law_div ha hb h0 h1 h2) (fun W g => eDiv_any a b W (HG.out.ext g) hl hm) (fun W g => div_any _ _ W (HG.out.ext g) gx.len gy.len)
  have Z0 : has0 b = true → (∀ W, Ext w W → Calls Tryz.prog 26 #[encV a, encV b] W (EncP (([], []), 10) W)) ∧ ∀ W, Ext w W → Calls Tryz.prog 42 #[encV b, txt [48]] W (BoolP true 0 W) := fun h0 => by
    obtain ⟨z1, z2⟩ := law_zero ha hb h0
    exact ⟨fun W g => by have q := eDiv_any a b W (HG.out.ext g) hl hm; rw [z1] at q; exact q, fun W g => by have q := eContains_any b [48] W (HG.out.ext g) hm (by decide); rw [z2] at q; exact q⟩
  generalize withinT a k1 = x at *
  generalize withinT b k2 = y at *
  clear gx gy
  have X0 := Lib.hid D0.e
  have Y0 := Lib.hid D0.q
  have C0 := Lib.hid D0.c
  unfold EncP at X0
  unfold ResP at Y0
  unfold BoolP at C0
  have X1 := Lib.hid D1.e
  have Y1 := Lib.hid D1.q
  have C1 := Lib.hid D1.c
  unfold EncP at X1
  unfold ResP at Y1
  unfold BoolP at C1
  have X2 := Lib.hid D2.e
  have Y2 := Lib.hid D2.q
  have C2 := Lib.hid D2.c
  unfold EncP at X2
  unfold ResP at Y2
  unfold BoolP at C2
  generalize h0 : has0 b = hz at *
  obtain ⟨l, h⟩ := a
  obtain ⟨m, q⟩ := b
  dsimp only [encV] at HRT W1 W2 X0 X1 X2 C0 C1 C2 ⊢
  clear ha hb hl hm D0 D1 D2 HG h0
  have hw0 : IntKind.i64.wrap 0 = 0 := by decide
  have A : EncAt w.heap.size ((((w.alloc (.cells #[txt l, txt h] 24)).alloc (.cells #[txt m, txt q] 24)).alloc (.cells #[.int .u8 (k1 : Int), .int .u8 (k2 : Int)] 63)).alloc (.cells #[txt l, txt h, txt m, txt q] 24)) l h := ⟨by go_simp, by go_simp, by go_simp, by go_simp⟩
  have B : EncAt (w.heap.size + 1) ((((w.alloc (.cells #[txt l, txt h] 24)).alloc (.cells #[txt m, txt q] 24)).alloc (.cells #[.int .u8 (k1 : Int), .int .u8 (k2 : Int)] 63)).alloc (.cells #[txt l, txt h, txt m, txt q] 24)) m q := ⟨by go_simp, by go_simp, by go_simp, by go_simp⟩
  have kc0 : ((((w.alloc (.cells #[txt l, txt h] 24)).alloc (.cells #[txt m, txt q] 24)).alloc (.cells #[.int .u8 (k1 : Int), .int .u8 (k2 : Int)] 63)).alloc (.cells #[txt l, txt h, txt m, txt q] 24)).cell? ⟨w.heap.size + 1 + 1, 0, none⟩ = some (.int .u8 (k1 : Int)) := by go_simp
  have kc1 : ((((w.alloc (.cells #[txt l, txt h] 24)).alloc (.cells #[txt m, txt q] 24)).alloc (.cells #[.int .u8 (k1 : Int), .int .u8 (k2 : Int)] 63)).alloc (.cells #[txt l, txt h, txt m, txt q] 24)).cell? ⟨w.heap.size + 1 + 1, 1, none⟩ = some (.int .u8 (k2 : Int)) := by go_simp
  have E : Ext w ((((w.alloc (.cells #[txt l, txt h] 24)).alloc (.cells #[txt m, txt q] 24)).alloc (.cells #[.int .u8 (k1 : Int), .int .u8 (k2 : Int)] 63)).alloc (.cells #[txt l, txt h, txt m, txt q] 24)) := extA
  go_enter Tryz.func8, Tryz.ntmps8
  go_wp2_with fail
  generalize hQ : ((((w.alloc (.cells #[txt l, txt h] 24)).alloc (.cells #[txt m, txt q] 24)).alloc (.cells #[.int .u8 (k1 : Int), .int .u8 (k2 : Int)] 63)).alloc (.cells #[txt l, txt h, txt m, txt q] 24)) = w0 at A B kc0 kc1 E ⊢
  have HR1 := HRT.out w0 (((w.alloc (.cells #[txt l, txt h] 24)).alloc (.cells #[txt m, txt q] 24)).alloc (.cells #[.int .u8 (k1 : Int), .int .u8 (k2 : Int)] 63)) (w.heap.size + 1 + 1 + 1) (by simp) hQ.symm
  clear HRT hQ
  refine HR1.mono ?_
  clear HR1
  rintro e w1 ⟨rfl, hE⟩
  replace E := E.trans hE
  replace A := A.ext hE
  replace B := B.ext hE
  replace kc0 := hE.cell kc0
  replace kc1 := hE.cell kc1
  clear hE
  have hD : Ext w1 w1.drew := extA
  replace E := E.trans hD
  replace A := A.ext hD
  replace B := B.ext hD
  have hS : w1.drew.cell? ⟨w.heap.size, 0, none⟩ = some (txt l) ∧ w1.drew.cell? ⟨w.heap.size, 1, none⟩ = some (txt h) ∧ w1.drew.cell? ⟨w.heap.size + 1, 0, none⟩ = some (txt m) ∧ w1.drew.cell? ⟨w.heap.size + 1, 1, none⟩ = some (txt q) ∧ w1.drew.cell? ⟨w.heap.size + 1 + 1, 0, none⟩ = some (.int .u8 (k1 : Int)) ∧ w1.drew.cell? ⟨w.heap.size + 1 + 1, 1, none⟩ = some (.int .u8 (k2 : Int)) := ⟨A.c0, A.c1, B.c0, B.c1, hD.cell kc0, hD.cell kc1⟩
  go_wp2_with fail
  refine wp_region_heldE 99 (fun w' => w'.cell? ⟨w.heap.size, 0, none⟩ = some (txt l) ∧ w'.cell? ⟨w.heap.size, 1, none⟩ = some (txt h) ∧ w'.cell? ⟨w.heap.size + 1, 0, none⟩ = some (txt m) ∧ w'.cell? ⟨w.heap.size + 1, 1, none⟩ = some (txt q) ∧ w'.cell? ⟨w.heap.size + 1 + 1, 0, none⟩ = some (.int .u8 (k1 : Int)) ∧ w'.cell? ⟨w.heap.size + 1 + 1, 1, none⟩ = some (.int .u8 (k2 : Int))) (by kernel_rfl) ?_
  clear kc0 kc1 hD
  generalize w1.drew = v0 at A B E hS ⊢
  ((refine eTk 0 ?_); (refine eTk 1 ?_); (refine eTk 2 ?_); (refine eTk 4 ?_); (refine eTk 5 ?_); (refine eTk 6 ?_))
  (refine wpAnyE_one (i := 3) (o := ?_) ?_ (by kernel_rfl) (fun K hK => ?_); rotate_left; (focus ((simp only [List.getElem?_toArray, List.getElem?_cons_succ, List.getElem?_cons_zero]; exact rfl))); go_simp; go_at_call 46; refine (W1.out _).mono ?_; rintro e v1 ⟨rfl, hE⟩; go_wp2_with fail; refine hK.out _ _ ?_ (fun hHeld => ?_); rotate_left; clear hK K; (try simp only [Act.put, List.setIfInBounds_toArray, List.set_cons_zero, List.set_cons_succ]))
  rotate_left
  · exact ⟨hE.cell hS.1, hE.cell hS.2.1, hE.cell hS.2.2.1, hE.cell hS.2.2.2.1, hE.cell hS.2.2.2.2.1, hE.cell hS.2.2.2.2.2⟩
  replace E := E.trans hE
  replace A := A.ext hE
  replace B := B.ext hE
  replace hS : v1.cell? ⟨w.heap.size, 0, none⟩ = some (txt l) ∧ v1.cell? ⟨w.heap.size, 1, none⟩ = some (txt h) ∧ v1.cell? ⟨w.heap.size + 1, 0, none⟩ = some (txt m) ∧ v1.cell? ⟨w.heap.size + 1, 1, none⟩ = some (txt q) ∧ v1.cell? ⟨w.heap.size + 1 + 1, 0, none⟩ = some (.int .u8 (k1 : Int)) ∧ v1.cell? ⟨w.heap.size + 1 + 1, 1, none⟩ = some (.int .u8 (k2 : Int)) := ⟨hE.cell hS.1, hE.cell hS.2.1, hE.cell hS.2.2.1, hE.cell hS.2.2.2.1, hE.cell hS.2.2.2.2.1, hE.cell hS.2.2.2.2.2⟩
  clear hE hHeld W1
  (refine wpAnyE_one (i := 7) (o := ?_) ?_ (by kernel_rfl) (fun K hK => ?_); rotate_left; (focus ((simp only [List.getElem?_toArray, List.getElem?_cons_succ, List.getElem?_cons_zero]; exact rfl))); go_simp; go_at_call 46; refine (W2.out _).mono ?_; rintro e w2 ⟨rfl, hE⟩; go_wp2_with fail; refine hK.out _ _ ?_ (fun hHeld => ?_); rotate_left; clear hK K; (try simp only [Act.put, List.setIfInBounds_toArray, List.set_cons_zero, List.set_cons_succ]))
  rotate_left
  · exact ⟨hE.cell hS.1, hE.cell hS.2.1, hE.cell hS.2.2.1, hE.cell hS.2.2.2.1, hE.cell hS.2.2.2.2.1, hE.cell hS.2.2.2.2.2⟩
  replace E := E.trans hE
  replace A := A.ext hE
  replace B := B.ext hE
  replace hS : w2.cell? ⟨w.heap.size, 0, none⟩ = some (txt l) ∧ w2.cell? ⟨w.heap.size, 1, none⟩ = some (txt h) ∧ w2.cell? ⟨w.heap.size + 1, 0, none⟩ = some (txt m) ∧ w2.cell? ⟨w.heap.size + 1, 1, none⟩ = some (txt q) ∧ w2.cell? ⟨w.heap.size + 1 + 1, 0, none⟩ = some (.int .u8 (k1 : Int)) ∧ w2.cell? ⟨w.heap.size + 1 + 1, 1, none⟩ = some (.int .u8 (k2 : Int)) := ⟨hE.cell hS.1, hE.cell hS.2.1, hE.cell hS.2.2.1, hE.cell hS.2.2.2.1, hE.cell hS.2.2.2.2.1, hE.cell hS.2.2.2.2.2⟩
  clear hE hHeld W2
  ((refine ePu 8 ?_); (refine ePu 9 ?_))
  clear hS
  refine wpAnyE_done (by kernel_rfl) ?_ _
  have A' := A
  have B' := B
  obtain ⟨A0, A1, A2, A3⟩ := A
  have zA := cell_lt A0
  dsimp only at zA
  obtain ⟨B0, B1, B2, B3⟩ := B
  have zB := cell_lt B0
  dsimp only at zB
  have F : ValsAt (w2.heap.size) (w2.alloc (.cells #[.func (.func 20) #[] #[], .func (.func 22) #[] #[], .func (.func 24) #[] #[], .func (.func 26) #[] #[]] 36)) (.func (.func 20) #[] #[]) (.func (.func 22) #[] #[]) (.func (.func 24) #[] #[]) (.func (.func 26) #[] #[]) := ⟨by go_simp, by go_simp, by go_simp, by go_simp⟩
  have EA : Ext w2 (w2.alloc (.cells #[.func (.func 20) #[] #[], .func (.func 22) #[] #[], .func (.func 24) #[] #[], .func (.func 26) #[] #[]] 36)) := extA
  replace A' := A'.ext EA
  replace B' := B'.ext EA
  replace E := E.trans EA
  clear EA
  go_wp2
  clear A0 A1 A2 A3 zA B0 B1 B2 B3 zB
  have A := A'
  clear A'
  have B := B'
  clear B'
  obtain ⟨bF, hbF⟩ : ∃ b, b = w2.heap.size := ⟨_, rfl⟩
  rw [← hbF] at F  ⊢
  generalize (w2.alloc (.cells #[.func (.func 20) #[] #[], .func (.func 22) #[] #[], .func (.func 24) #[] #[], .func (.func 26) #[] #[]] 36)) = w3 at A B F E ⊢
  clear hbF
  refine wp_loop_rounds 5 ?_
  rw [rounds_succ]
  have A' := A
  have B' := B
  have F' := F
  obtain ⟨A0, A1, A2, A3⟩ := A
  have zA := cell_lt A0
  dsimp only at zA
  obtain ⟨B0, B1, B2, B3⟩ := B
  have zB := cell_lt B0
  dsimp only at zB
  obtain ⟨F0, F1, F2, F3⟩ := F
  have zF := cell_lt F0
  dsimp only at zF
  go_wp2_with fail
  clear A0 A1 A2 A3 zA B0 B1 B2 B3 zB F0 F1 F2 F3 zF
  have A := A'
  clear A'
  have B := B'
  clear B'
  have F := F'
  clear F'
  refine (X0.out _ E).mono ?_
  clear X0
  rintro e w4 ⟨rfl, hE⟩
  replace E := E.trans hE
  replace A := A.ext hE
  replace B := B.ext hE
  replace F := F.ext hE
  clear hE
  have A' := A
  have B' := B
  have F' := F
  obtain ⟨A0, A1, A2, A3⟩ := A
  have zA := cell_lt A0
  dsimp only at zA
  obtain ⟨B0, B1, B2, B3⟩ := B
  have zB := cell_lt B0
  dsimp only at zB
  obtain ⟨F0, F1, F2, F3⟩ := F
  have zF := cell_lt F0
  dsimp only at zF
  have C : EncAt (w4.heap.size) ((w4.alloc (.cells #[txt p0, txt q0] 24)).alloc (.cells #[.func (.func 47) #[] #[], .func (.func 48) #[] #[], .func (.func 49) #[] #[], .func (.func 50) #[] #[]] 66)) p0 q0 := ⟨by go_simp, by go_simp, by go_simp, by go_simp⟩
  have H : ValsAt (w4.heap.size + 1) ((w4.alloc (.cells #[txt p0, txt q0] 24)).alloc (.cells #[.func (.func 47) #[] #[], .func (.func 48) #[] #[], .func (.func 49) #[] #[], .func (.func 50) #[] #[]] 66)) (.func (.func 47) #[] #[]) (.func (.func 48) #[] #[]) (.func (.func 49) #[] #[]) (.func (.func 50) #[] #[]) := ⟨by go_simp, by go_simp, by go_simp, by go_simp⟩
  have EA : Ext w4 ((w4.alloc (.cells #[txt p0, txt q0] 24)).alloc (.cells #[.func (.func 47) #[] #[], .func (.func 48) #[] #[], .func (.func 49) #[] #[], .func (.func 50) #[] #[]] 66)) := extA
  replace A' := A'.ext EA
  replace B' := B'.ext EA
  replace F' := F'.ext EA
  replace E := E.trans EA
  clear EA
  go_wp2_with fail
  clear A0 A1 A2 A3 zA B0 B1 B2 B3 zB F0 F1 F2 F3 zF
  have A := A'
  clear A'
  have B := B'
  clear B'
  have F := F'
  clear F'
  obtain ⟨bH, hbH⟩ : ∃ b, b = w4.heap.size + 1 := ⟨_, rfl⟩
  rw [← hbH] at H  ⊢
  obtain ⟨bC, hbC⟩ : ∃ b, b = w4.heap.size := ⟨_, rfl⟩
  rw [← hbC] at C  ⊢
  generalize ((w4.alloc (.cells #[txt p0, txt q0] 24)).alloc (.cells #[.func (.func 47) #[] #[], .func (.func 48) #[] #[], .func (.func 49) #[] #[], .func (.func 50) #[] #[]] 66)) = w5 at A B F C H E ⊢
  clear hbC
  clear hbH
  refine (Y0.out _ E).mono ?_
  clear Y0
  rintro e w6 ⟨rfl, hE⟩
  replace E := E.trans hE
  replace A := A.ext hE
  replace B := B.ext hE
  replace F := F.ext hE
  replace C := C.ext hE
  replace H := H.ext hE
  clear hE
  clear H
  have A' := A
  have B' := B
  have F' := F
  have C' := C
  obtain ⟨A0, A1, A2, A3⟩ := A
  have zA := cell_lt A0
  dsimp only at zA
  obtain ⟨B0, B1, B2, B3⟩ := B
  have zB := cell_lt B0
  dsimp only at zB
  obtain ⟨F0, F1, F2, F3⟩ := F
  have zF := cell_lt F0
  dsimp only at zF
  obtain ⟨C0, C1, C2, C3⟩ := C
  have zC := cell_lt C0
  dsimp only at zC
  go_wp2_with fail
  clear A0 A1 A2 A3 zA B0 B1 B2 B3 zB F0 F1 F2 F3 zF C0 C1 C2 C3 zC
  have A := A'
  clear A'
  have B := B'
  clear B'
  have F := F'
  clear F'
  have C := C'
  clear C'
  refine (C0.out _ E).mono ?_
  clear C0
  rintro e w7 ⟨rfl, hE⟩
  replace E := E.trans hE
  replace A := A.ext hE
  replace B := B.ext hE
  replace F := F.ext hE
  replace C := C.ext hE
  clear hE
  clear C
  have A' := A
  have B' := B
  have F' := F
  obtain ⟨A0, A1, A2, A3⟩ := A
  have zA := cell_lt A0
  dsimp only at zA
  obtain ⟨B0, B1, B2, B3⟩ := B
  have zB := cell_lt B0
  dsimp only at zB
  obtain ⟨F0, F1, F2, F3⟩ := F
  have zF := cell_lt F0
  dsimp only at zF
  go_wp2_with fail
  clear A0 A1 A2 A3 zA B0 B1 B2 B3 zB F0 F1 F2 F3 zF
  have A := A'
  clear A'
  have B := B'
  clear B'
  have F := F'
  clear F'
  rw [rounds_succ]
  have A' := A
  have B' := B
  have F' := F
  obtain ⟨A0, A1, A2, A3⟩ := A
  have zA := cell_lt A0
  dsimp only at zA
  obtain ⟨B0, B1, B2, B3⟩ := B
  have zB := cell_lt B0
  dsimp only at zB
  obtain ⟨F0, F1, F2, F3⟩ := F
  have zF := cell_lt F0
  dsimp only at zF
  go_wp2_with fail
  clear A0 A1 A2 A3 zA B0 B1 B2 B3 zB F0 F1 F2 F3 zF
  have A := A'
  clear A'
  have B := B'
  clear B'
  have F := F'
  clear F'
  refine (X1.out _ E).mono ?_
  clear X1
  rintro e w8 ⟨rfl, hE⟩
  replace E := E.trans hE
  replace A := A.ext hE
  replace B := B.ext hE
  replace F := F.ext hE
  clear hE
  have A' := A
  have B' := B
  have F' := F
  obtain ⟨A0, A1, A2, A3⟩ := A
  have zA := cell_lt A0
  dsimp only at zA
  obtain ⟨B0, B1, B2, B3⟩ := B
  have zB := cell_lt B0
  dsimp only at zB
  obtain ⟨F0, F1, F2, F3⟩ := F
  have zF := cell_lt F0
  dsimp only at zF
  have C : EncAt (w8.heap.size) ((w8.alloc (.cells #[txt p1, txt q1] 24)).alloc (.cells #[.func (.func 47) #[] #[], .func (.func 48) #[] #[], .func (.func 49) #[] #[], .func (.func 50) #[] #[]] 66)) p1 q1 := ⟨by go_simp, by go_simp, by go_simp, by go_simp⟩
  have H : ValsAt (w8.heap.size + 1) ((w8.alloc (.cells #[txt p1, txt q1] 24)).alloc (.cells #[.func (.func 47) #[] #[], .func (.func 48) #[] #[], .func (.func 49) #[] #[], .func (.func 50) #[] #[]] 66)) (.func (.func 47) #[] #[]) (.func (.func 48) #[] #[]) (.func (.func 49) #[] #[]) (.func (.func 50) #[] #[]) := ⟨by go_simp, by go_simp, by go_simp, by go_simp⟩
  have EA : Ext w8 ((w8.alloc (.cells #[txt p1, txt q1] 24)).alloc (.cells #[.func (.func 47) #[] #[], .func (.func 48) #[] #[], .func (.func 49) #[] #[], .func (.func 50) #[] #[]] 66)) := extA
  replace A' := A'.ext EA
  replace B' := B'.ext EA
  replace F' := F'.ext EA
  replace E := E.trans EA
  clear EA
  go_wp2_with fail
  clear A0 A1 A2 A3 zA B0 B1 B2 B3 zB F0 F1 F2 F3 zF
  have A := A'
  clear A'
  have B := B'
  clear B'
  have F := F'
  clear F'
  obtain ⟨bH, hbH⟩ : ∃ b, b = w8.heap.size + 1 := ⟨_, rfl⟩
  rw [← hbH] at H  ⊢
  obtain ⟨bC, hbC⟩ : ∃ b, b = w8.heap.size := ⟨_, rfl⟩
  rw [← hbC] at C  ⊢
  generalize ((w8.alloc (.cells #[txt p1, txt q1] 24)).alloc (.cells #[.func (.func 47) #[] #[], .func (.func 48) #[] #[], .func (.func 49) #[] #[], .func (.func 50) #[] #[]] 66)) = w9 at A B F C H E ⊢
  clear hbC
  clear hbH
  refine (Y1.out _ E).mono ?_
  clear Y1
  rintro e w10 ⟨rfl, hE⟩
  replace E := E.trans hE
  replace A := A.ext hE
  replace B := B.ext hE
  replace F := F.ext hE
  replace C := C.ext hE
  replace H := H.ext hE
  clear hE
  clear H
  have A' := A
  have B' := B
  have F' := F
  have C' := C
  obtain ⟨A0, A1, A2, A3⟩ := A
  have zA := cell_lt A0
  dsimp only at zA
  obtain ⟨B0, B1, B2, B3⟩ := B
  have zB := cell_lt B0
  dsimp only at zB
  obtain ⟨F0, F1, F2, F3⟩ := F
  have zF := cell_lt F0
  dsimp only at zF
  obtain ⟨C0, C1, C2, C3⟩ := C
  have zC := cell_lt C0
  dsimp only at zC
  go_wp2_with fail
  clear A0 A1 A2 A3 zA B0 B1 B2 B3 zB F0 F1 F2 F3 zF C0 C1 C2 C3 zC
  have A := A'
  clear A'
  have B := B'
  clear B'
  have F := F'
  clear F'
  have C := C'
  clear C'
  refine (C1.out _ E).mono ?_
  clear C1
  rintro e w11 ⟨rfl, hE⟩
  replace E := E.trans hE
  replace A := A.ext hE
  replace B := B.ext hE
  replace F := F.ext hE
  replace C := C.ext hE
  clear hE
  clear C
  have A' := A
  have B' := B
  have F' := F
  obtain ⟨A0, A1, A2, A3⟩ := A
  have zA := cell_lt A0
  dsimp only at zA
  obtain ⟨B0, B1, B2, B3⟩ := B
  have zB := cell_lt B0
  dsimp only at zB
  obtain ⟨F0, F1, F2, F3⟩ := F
  have zF := cell_lt F0
  dsimp only at zF
  go_wp2_with fail
  clear A0 A1 A2 A3 zA B0 B1 B2 B3 zB F0 F1 F2 F3 zF
  have A := A'
  clear A'
  have B := B'
  clear B'
  have F := F'
  clear F'
  rw [rounds_succ]
  have A' := A
  have B' := B
  have F' := F
  obtain ⟨A0, A1, A2, A3⟩ := A
  have zA := cell_lt A0
  dsimp only at zA
  obtain ⟨B0, B1, B2, B3⟩ := B
  have zB := cell_lt B0
  dsimp only at zB
  obtain ⟨F0, F1, F2, F3⟩ := F
  have zF := cell_lt F0
  dsimp only at zF
  go_wp2_with fail
  clear A0 A1 A2 A3 zA B0 B1 B2 B3 zB F0 F1 F2 F3 zF
  have A := A'
  clear A'
  have B := B'
  clear B'
  have F := F'
  clear F'
  refine (X2.out _ E).mono ?_
  clear X2
  rintro e w12 ⟨rfl, hE⟩
  replace E := E.trans hE
  replace A := A.ext hE
  replace B := B.ext hE
  replace F := F.ext hE
  clear hE
  have A' := A
  have B' := B
  have F' := F
  obtain ⟨A0, A1, A2, A3⟩ := A
  have zA := cell_lt A0
  dsimp only at zA
  obtain ⟨B0, B1, B2, B3⟩ := B
  have zB := cell_lt B0
  dsimp only at zB
  obtain ⟨F0, F1, F2, F3⟩ := F
  have zF := cell_lt F0
  dsimp only at zF
  have C : EncAt (w12.heap.size) ((w12.alloc (.cells #[txt p2, txt q2] 24)).alloc (.cells #[.func (.func 47) #[] #[], .func (.func 48) #[] #[], .func (.func 49) #[] #[], .func (.func 50) #[] #[]] 66)) p2 q2 := ⟨by go_simp, by go_simp, by go_simp, by go_simp⟩
  have H : ValsAt (w12.heap.size + 1) ((w12.alloc (.cells #[txt p2, txt q2] 24)).alloc (.cells #[.func (.func 47) #[] #[], .func (.func 48) #[] #[], .func (.func 49) #[] #[], .func (.func 50) #[] #[]] 66)) (.func (.func 47) #[] #[]) (.func (.func 48) #[] #[]) (.func (.func 49) #[] #[]) (.func (.func 50) #[] #[]) := ⟨by go_simp, by go_simp, by go_simp, by go_simp⟩
  have EA : Ext w12 ((w12.alloc (.cells #[txt p2, txt q2] 24)).alloc (.cells #[.func (.func 47) #[] #[], .func (.func 48) #[] #[], .func (.func 49) #[] #[], .func (.func 50) #[] #[]] 66)) := extA
  replace A' := A'.ext EA
  replace B' := B'.ext EA
  replace F' := F'.ext EA
  replace E := E.trans EA
  clear EA
  go_wp2_with fail
  clear A0 A1 A2 A3 zA B0 B1 B2 B3 zB F0 F1 F2 F3 zF
  have A := A'
  clear A'
  have B := B'
  clear B'
  have F := F'
  clear F'
  obtain ⟨bH, hbH⟩ : ∃ b, b = w12.heap.size + 1 := ⟨_, rfl⟩
  rw [← hbH] at H  ⊢
  obtain ⟨bC, hbC⟩ : ∃ b, b = w12.heap.size := ⟨_, rfl⟩
  rw [← hbC] at C  ⊢
  generalize ((w12.alloc (.cells #[txt p2, txt q2] 24)).alloc (.cells #[.func (.func 47) #[] #[], .func (.func 48) #[] #[], .func (.func 49) #[] #[], .func (.func 50) #[] #[]] 66)) = w13 at A B F C H E ⊢
  clear hbC
  clear hbH
  refine (Y2.out _ E).mono ?_
  clear Y2
  rintro e w14 ⟨rfl, hE⟩
  replace E := E.trans hE
  replace A := A.ext hE
  replace B := B.ext hE
  replace F := F.ext hE
  replace C := C.ext hE
  replace H := H.ext hE
  clear hE
  clear H
  have A' := A
  have B' := B
  have F' := F
  have C' := C
  obtain ⟨A0, A1, A2, A3⟩ := A
  have zA := cell_lt A0
  dsimp only at zA
  obtain ⟨B0, B1, B2, B3⟩ := B
  have zB := cell_lt B0
  dsimp only at zB
  obtain ⟨F0, F1, F2, F3⟩ := F
  have zF := cell_lt F0
  dsimp only at zF
  obtain ⟨C0, C1, C2, C3⟩ := C
  have zC := cell_lt C0
  dsimp only at zC
  go_wp2_with fail
  clear A0 A1 A2 A3 zA B0 B1 B2 B3 zB F0 F1 F2 F3 zF C0 C1 C2 C3 zC
  have A := A'
  clear A'
  have B := B'
  clear B'
  have F := F'
  clear F'
  have C := C'
  clear C'
  refine (C2.out _ E).mono ?_
  clear C2
  rintro e w15 ⟨rfl, hE⟩
  replace E := E.trans hE
  replace A := A.ext hE
  replace B := B.ext hE
  replace F := F.ext hE
  replace C := C.ext hE
  clear hE
  clear C
  have A' := A
  have B' := B
  have F' := F
  obtain ⟨A0, A1, A2, A3⟩ := A
  have zA := cell_lt A0
  dsimp only at zA
  obtain ⟨B0, B1, B2, B3⟩ := B
  have zB := cell_lt B0
  dsimp only at zB
  obtain ⟨F0, F1, F2, F3⟩ := F
  have zF := cell_lt F0
  dsimp only at zF
  go_wp2_with fail
  clear A0 A1 A2 A3 zA B0 B1 B2 B3 zB F0 F1 F2 F3 zF
  have A := A'
  clear A'
  have B := B'
  clear B'
  have F := F'
  clear F'
  rw [rounds_succ]
  cases hz
  · obtain ⟨p3, q3, t3, D3⟩ := D3 rfl
    have X3 := Lib.hid D3.e
    have Y3 := Lib.hid D3.q
    have C3 := Lib.hid D3.c
    unfold EncP at X3
    unfold ResP at Y3
    unfold BoolP at C3
    dsimp only [encV] at X3 Y3 C3
    clear D3 Z0
    have A' := A
    have B' := B
    have F' := F
    obtain ⟨A0, A1, A2, A3⟩ := A
    have zA := cell_lt A0
    dsimp only at zA
    obtain ⟨B0, B1, B2, B3⟩ := B
    have zB := cell_lt B0
    dsimp only at zB
    obtain ⟨F0, F1, F2, F3⟩ := F
    have zF := cell_lt F0
    dsimp only at zF
    go_wp2_with fail
    clear A0 A1 A2 A3 zA B0 B1 B2 B3 zB F0 F1 F2 F3 zF
    have A := A'
    clear A'
    have B := B'
    clear B'
    have F := F'
    clear F'
    refine (X3.out _ E).mono ?_
    clear X3
    rintro e w16 ⟨rfl, hE⟩
    replace E := E.trans hE
    replace A := A.ext hE
    replace B := B.ext hE
    replace F := F.ext hE
    clear hE
    have A' := A
    have B' := B
    have F' := F
    obtain ⟨A0, A1, A2, A3⟩ := A
    have zA := cell_lt A0
    dsimp only at zA
    obtain ⟨B0, B1, B2, B3⟩ := B
    have zB := cell_lt B0
    dsimp only at zB
    obtain ⟨F0, F1, F2, F3⟩ := F
    have zF := cell_lt F0
    dsimp only at zF
    have C : EncAt (w16.heap.size) ((w16.alloc (.cells #[txt p3, txt q3] 24)).alloc (.cells #[.func (.func 47) #[] #[], .func (.func 48) #[] #[], .func (.func 49) #[] #[], .func (.func 50) #[] #[]] 66)) p3 q3 := ⟨by go_simp, by go_simp, by go_simp, by go_simp⟩
    have H : ValsAt (w16.heap.size + 1) ((w16.alloc (.cells #[txt p3, txt q3] 24)).alloc (.cells #[.func (.func 47) #[] #[], .func (.func 48) #[] #[], .func (.func 49) #[] #[], .func (.func 50) #[] #[]] 66)) (.func (.func 47) #[] #[]) (.func (.func 48) #[] #[]) (.func (.func 49) #[] #[]) (.func (.func 50) #[] #[]) := ⟨by go_simp, by go_simp, by go_simp, by go_simp⟩
    have EA : Ext w16 ((w16.alloc (.cells #[txt p3, txt q3] 24)).alloc (.cells #[.func (.func 47) #[] #[], .func (.func 48) #[] #[], .func (.func 49) #[] #[], .func (.func 50) #[] #[]] 66)) := extA
    replace A' := A'.ext EA
    replace B' := B'.ext EA
    replace F' := F'.ext EA
    replace E := E.trans EA
    clear EA
    go_wp2_with fail
    clear A0 A1 A2 A3 zA B0 B1 B2 B3 zB F0 F1 F2 F3 zF
    have A := A'
    clear A'
    have B := B'
    clear B'
    have F := F'
    clear F'
    obtain ⟨bH, hbH⟩ : ∃ b, b = w16.heap.size + 1 := ⟨_, rfl⟩
    rw [← hbH] at H  ⊢
    obtain ⟨bC, hbC⟩ : ∃ b, b = w16.heap.size := ⟨_, rfl⟩
    rw [← hbC] at C  ⊢
    generalize ((w16.alloc (.cells #[txt p3, txt q3] 24)).alloc (.cells #[.func (.func 47) #[] #[], .func (.func 48) #[] #[], .func (.func 49) #[] #[], .func (.func 50) #[] #[]] 66)) = w17 at A B F C H E ⊢
    clear hbC
    clear hbH
    refine (Y3.out _ E).mono ?_
    clear Y3
    rintro e w18 ⟨rfl, hE⟩
    replace E := E.trans hE
    replace A := A.ext hE
    replace B := B.ext hE
    replace F := F.ext hE
    replace C := C.ext hE
    replace H := H.ext hE
    clear hE
    clear H
    have A' := A
    have B' := B
    have F' := F
    have C' := C
    obtain ⟨A0, A1, A2, A3⟩ := A
    have zA := cell_lt A0
    dsimp only at zA
    obtain ⟨B0, B1, B2, B3⟩ := B
    have zB := cell_lt B0
    dsimp only at zB
    obtain ⟨F0, F1, F2, F3⟩ := F
    have zF := cell_lt F0
    dsimp only at zF
    obtain ⟨C0, C1, C2, C3⟩ := C
    have zC := cell_lt C0
    dsimp only at zC
    go_wp2_with fail
    clear A0 A1 A2 A3 zA B0 B1 B2 B3 zB F0 F1 F2 F3 zF C0 C1 C2 C3 zC
    have A := A'
    clear A'
    have B := B'
    clear B'
    have F := F'
    clear F'
    have C := C'
    clear C'
    refine (C3.out _ E).mono ?_
    clear C3
    rintro e w19 ⟨rfl, hE⟩
    replace E := E.trans hE
    replace A := A.ext hE
    replace B := B.ext hE
    replace F := F.ext hE
    replace C := C.ext hE
    clear hE
    clear C
    have A' := A
    have B' := B
    have F' := F
    obtain ⟨A0, A1, A2, A3⟩ := A
    have zA := cell_lt A0
    dsimp only at zA
    obtain ⟨B0, B1, B2, B3⟩ := B
    have zB := cell_lt B0
    dsimp only at zB
    obtain ⟨F0, F1, F2, F3⟩ := F
    have zF := cell_lt F0
    dsimp only at zF
    go_wp2_with fail
    clear A0 A1 A2 A3 zA B0 B1 B2 B3 zB F0 F1 F2 F3 zF
    have A := A'
    clear A'
    have B := B'
    clear B'
    have F := F'
    clear F'
    rw [rounds_succ]
    have A' := A
    have B' := B
    have F' := F
    obtain ⟨A0, A1, A2, A3⟩ := A
    have zA := cell_lt A0
    dsimp only at zA
    obtain ⟨B0, B1, B2, B3⟩ := B
    have zB := cell_lt B0
    dsimp only at zB
    obtain ⟨F0, F1, F2, F3⟩ := F
    have zF := cell_lt F0
    dsimp only at zF
    go_wp2_with fail
    clear A0 A1 A2 A3 zA B0 B1 B2 B3 zB F0 F1 F2 F3 zF
    have A := A'
    clear A'
    have B := B'
    clear B'
    have F := F'
    clear F'
    refine (HA.out _ E).mono ?_
    rintro e w20 ⟨rfl, hE⟩
    replace E := E.trans hE
    replace A := A.ext hE
    replace B := B.ext hE
    replace F := F.ext hE
    clear hE
    go_wp2_with fail
    go_ret
    exact ⟨rfl, E⟩
  · obtain ⟨z1, z2⟩ := Z0 rfl
    have X3 := Lib.hid z1
    have C3 := Lib.hid z2
    unfold EncP at X3
    unfold BoolP at C3
    dsimp only [encV] at X3 C3
    clear D3 Z0 z1 z2
    have A' := A
    have B' := B
    have F' := F
    obtain ⟨A0, A1, A2, A3⟩ := A
    have zA := cell_lt A0
    dsimp only at zA
    obtain ⟨B0, B1, B2, B3⟩ := B
    have zB := cell_lt B0
    dsimp only at zB
    obtain ⟨F0, F1, F2, F3⟩ := F
    have zF := cell_lt F0
    dsimp only at zF
    go_wp2_with fail
    clear A0 A1 A2 A3 zA B0 B1 B2 B3 zB F0 F1 F2 F3 zF
    have A := A'
    clear A'
    have B := B'
    clear B'
    have F := F'
    clear F'
    refine (X3.out _ E).mono ?_
    clear X3
    rintro e w16 ⟨rfl, hE⟩
    replace E := E.trans hE
    replace A := A.ext hE
    replace B := B.ext hE
    replace F := F.ext hE
    clear hE
    have A' := A
    have B' := B
    have F' := F
    obtain ⟨A0, A1, A2, A3⟩ := A
    have zA := cell_lt A0
    dsimp only at zA
    obtain ⟨B0, B1, B2, B3⟩ := B
    have zB := cell_lt B0
    dsimp only at zB
    obtain ⟨F0, F1, F2, F3⟩ := F
    have zF := cell_lt F0
    dsimp only at zF
    have C : EncAt (w16.heap.size) (w16.alloc (.cells #[txt [], txt []] 24)) [] [] := ⟨by go_simp, by go_simp, by go_simp, by go_simp⟩
    have EA : Ext w16 (w16.alloc (.cells #[txt [], txt []] 24)) := extA
    replace A' := A'.ext EA
    replace B' := B'.ext EA
    replace F' := F'.ext EA
    replace E := E.trans EA
    clear EA
    go_wp2_with fail
    clear A0 A1 A2 A3 zA B0 B1 B2 B3 zB F0 F1 F2 F3 zF
    have A := A'
    clear A'
    have B := B'
    clear B'
    have F := F'
    clear F'
    obtain ⟨bC, hbC⟩ : ∃ b, b = w16.heap.size := ⟨_, rfl⟩
    rw [← hbC] at C  ⊢
    generalize (w16.alloc (.cells #[txt [], txt []] 24)) = w17 at A B F C E ⊢
    clear hbC
    refine (C3.out _ E).mono ?_
    clear C3
    rintro e w18 ⟨rfl, hE⟩
    replace E := E.trans hE
    replace A := A.ext hE
    replace B := B.ext hE
    replace F := F.ext hE
    replace C := C.ext hE
    clear hE
    have A' := A
    have B' := B
    have F' := F
    have C' := C
    obtain ⟨A0, A1, A2, A3⟩ := A
    have zA := cell_lt A0
    dsimp only at zA
    obtain ⟨B0, B1, B2, B3⟩ := B
    have zB := cell_lt B0
    dsimp only at zB
    obtain ⟨F0, F1, F2, F3⟩ := F
    have zF := cell_lt F0
    dsimp only at zF
    obtain ⟨C0, C1, C2, C3⟩ := C
    have zC := cell_lt C0
    dsimp only at zC
    go_wp2_with fail
    clear A0 A1 A2 A3 zA B0 B1 B2 B3 zB F0 F1 F2 F3 zF C0 C1 C2 C3 zC
    have A := A'
    clear A'
    have B := B'
    clear B'
    have F := F'
    clear F'
    have C := C'
    clear C'
    refine (HA.out _ E).mono ?_
    rintro e w19 ⟨rfl, hE⟩
    replace E := E.trans hE
    replace A := A.ext hE
    replace B := B.ext hE
    replace F := F.ext hE
    replace C := C.ext hE
    clear hE
    go_wp2_with fail
    go_ret
    exact ⟨rfl, E⟩
end Go.Proofs.YtdejgaiocjfhjaaGreatDoor
