/- Steps of the proof: FMadR, FMakP, FLongR, FOfR, UOpenL, FRefS, FSumR, FOpsR, UGiv2, URf6, ULBnd. No conditions. -/
import Derived.SliceStrings
import Derived.Test.YtmndcdjcodfchaaGreatDoorCards
import Derived.Test.YtmndcdjcodfchaaGreatDoorTie
import Derived.WalkKit
import Derived.ProofKit
import Derived.OpenShut
import Derived.Deep.DeepHandedRow
import Derived.Lib.LaidTab
import Derived.LaidSub
import Derived.Stop.LaidErr
import Derived.MakeChecks
import Derived.Test.YtmndcdjcodfchaaGreatDoorZUB1
import Derived.Test.YtmndcdjcodfchaaGreatDoorZUB2
import Derived.Test.YtmndcdjcodfchaaGreatDoorZUB3
import Derived.Test.YtmndcdjcodfchaaGreatDoorZUB4
import Derived.Test.YtmndcdjcodfchaaGreatDoorZUB5
import Derived.Test.YtmndcdjcodfchaaGreatDoorZUB6
import Derived.Test.YtmndcdjcodfchaaGreatDoorZUB7
import Derived.Test.YtmndcdjcodfchaaGreatDoorZUB8
import Derived.Test.YtmndcdjcodfchaaGreatDoorZUBnd1
namespace Go.Proofs.YtmndcdjcodfchaaGreatDoor
open Go.RowKit
open Go.Lib (decDigits)
set_option maxHeartbeats 8000000 in
set_option maxRecDepth 100000 in
theorem madeR_any (s : Bool) (t d : Nat) (v : Value) (w : World) (hv : NumR w v (s, t, d)) (hd : d ≠ 0) (htl : (toB 1000000 t).length ≤ 100) (hdl : (toB 1000000 d).length ≤ 100) :
    Calls Tryz.prog 132 #[v] w (WritPost (numQ s t d) w) := by
  obtain ⟨ta, tc, ba, bc, rfl, hct, hcb⟩ := hv
  obtain ⟨T, hT⟩ : ∃ T, T = decDigits (t / Nat.gcd t d) := ⟨_, rfl⟩
  obtain ⟨D, hD⟩ : ∃ D, D = decDigits (d / Nat.gcd t d) := ⟨_, rfl⟩
  have HMP := Lib.hid (made_parts (s := s) hd hT hD)
  obtain ⟨g, hg⟩ : ∃ g, g = Nat.gcd t d := ⟨_, rfl⟩
  have hg0 : 0 < g := by rw [hg]; exact Nat.gcd_pos_of_pos_right _ (by omega)
  have hgl : (toB 1000000 g).length ≤ 100 := Nat.le_trans (toB_mono (by omega) (by rw [hg]; exact Nat.gcd_le_right _ (by omega))) hdl
  rw [← hg] at hT hD
  have ht1 : (toB 1000000 (t / g)).length ≤ 100 := Nat.le_trans (toB_mono (by omega) (Nat.div_le_self _ _)) htl
  have hd1 : (toB 1000000 (d / g)).length ≤ 100 := Nat.le_trans (toB_mono (by omega) (Nat.div_le_self _ _)) hdl
  have HT1 : Hid (∀ W (a : Option Addr) (c : Nat), CellsN .i64 W a (toB 1000000 (t / g)) → Calls Tryz.prog 115 #[.slice a (toB 1000000 (t / g)).length c] W fun e w' => e = .returned (txt T) ∧ Ext W w') := fun W a c h => by
    rw [hT]; exact digitsR_any (t / g) _ a c W rfl (by omega) h
  have HD1 : Hid (∀ W (a : Option Addr) (c : Nat), CellsN .i64 W a (toB 1000000 (d / g)) → Calls Tryz.prog 115 #[.slice a (toB 1000000 (d / g)).length c] W fun e w' => e = .returned (txt D) ∧ Ext W w') := fun W a c h => by
    rw [hD]; exact digitsR_any (d / g) _ a c W rfl (by omega) h
  have HSH : Hid (∀ W, CellsN .i64 W ta (toB 1000000 t) → CellsN .i64 W ba (toB 1000000 d) → Calls Tryz.prog 86 #[(.slice ta (toB 1000000 t).length tc), (.slice ba (toB 1000000 d).length bc)] W (NewR (toB 1000000 g) W)) := fun W h1 h2 => by
    rw [hg]; exact sharedR_any t d _ _ ta ba tc bc W rfl rfl htl hdl h1 h2
  have HQ1 := Lib.hid (fun W (a : Option Addr) (c : Nat) (h1 : CellsN .i64 W ta (toB 1000000 t)) (h2 : CellsN .i64 W a (toB 1000000 g)) => quotientR_any t g _ _ ta a tc c W rfl rfl hg0 htl hgl h1 h2)
  have HQ2 := Lib.hid (fun W (a : Option Addr) (c : Nat) (h1 : CellsN .i64 W ba (toB 1000000 d)) (h2 : CellsN .i64 W a (toB 1000000 g)) => quotientR_any d g _ _ ba a bc c W rfl rfl hg0 hdl hgl h1 h2)
  clear hT hD hg hg0 hgl ht1 hd1 htl hdl hd
  have CT := Lib.hid hct
  have CB := Lib.hid hcb
  generalize d / g = n2 at *
  generalize t / g = n1 at *
  generalize numQ s t d = q at *
  have E : Ext w (w.alloc (.cells #[.bool s, (.slice ta (toB 1000000 t).length tc), (.slice ba (toB 1000000 d).length bc)] 128)) := extA
  have X : Num3 w.heap.size (w.alloc (.cells #[.bool s, (.slice ta (toB 1000000 t).length tc), (.slice ba (toB 1000000 d).length bc)] 128)) (.bool s) (.slice ta (toB 1000000 t).length tc) (.slice ba (toB 1000000 d).length bc) := ⟨by go_simp, by go_simp, by go_simp, by go_simp, by go_simp, by go_simp⟩
  clear hct hcb
  unfold WritPost
  go_enter Tryz.func132, Tryz.ntmps132
  go_wp2_with fail
  generalize (w.alloc (.cells #[.bool s, (.slice ta (toB 1000000 t).length tc), (.slice ba (toB 1000000 d).length bc)] 128)) = W at E X ⊢
  refine (HSH.out _ (CT.out.ext E) (CB.out.ext E)).mono ?_
  rintro e w1 ⟨ga, gc, rfl, hgc, hE⟩
  replace X := X.ext hE
  replace E := E.trans hE
  have CG := Lib.hid hgc
  clear hE hgc HSH
  obtain ⟨x0, x1, x2, g0, g1, g2⟩ := X
  go_wp2_with fail
  refine (HQ1.out _ ga gc (CT.out.ext E) CG.out).mono ?_
  rintro e w2 ⟨q1, r1, rfl, hq1, _, _, _, hE⟩
  obtain ⟨qa, qc, rfl, hqc, _, _⟩ := hq1.reads
  have X := (Num3.mk x0 x1 x2 g0 g1 g2).ext hE
  replace E := E.trans hE
  replace CG := Lib.hid (CG.out.ext hE)
  have CQ := Lib.hid hqc
  clear hE hqc hq1 HQ1 x0 x1 x2 g0 g1 g2
  obtain ⟨x0, x1, x2, g0, g1, g2⟩ := X
  go_wp2_with fail
  refine (HQ2.out _ ga gc (CB.out.ext E) CG.out).mono ?_
  rintro e w3 ⟨q2, r2, rfl, hq2, _, _, _, hE⟩
  obtain ⟨pa, pc, rfl, hpc, _, _⟩ := hq2.reads
  have X := (Num3.mk x0 x1 x2 g0 g1 g2).ext hE
  replace E := E.trans hE
  replace CQ := Lib.hid (CQ.out.ext hE)
  have CP := Lib.hid hpc
  clear hE hpc hq2 HQ2 x0 x1 x2 g0 g1 g2 CG CT CB
  obtain ⟨x0, x1, x2, g0, g1, g2⟩ := X
  clear x1 x2 g0 g1 g2
  go_wp2_with fail
  refine (HT1.out _ qa qc CQ.out).mono ?_
  rintro e w4 ⟨rfl, hE⟩
  replace x0 := hE.cell x0
  replace E := E.trans hE
  replace CP := Lib.hid (CP.out.ext hE)
  clear hE CQ HT1
  go_wp2_with fail
  refine (HD1.out _ pa pc CP.out).mono ?_
  rintro e w5 ⟨rfl, hE⟩
  replace x0 := hE.cell x0
  replace E := E.trans hE
  clear hE CP HD1
  by_cases hb1 : 60 < T.length
  · have HE := Lib.hid (HMP.out.2 (.inl hb1))
    have hb3 : (60 : Int) < (T.length : Int) := by omega
    clear HMP
    go_wp2
    go_ret2
    exact ⟨by rw [HE.out.1, HE.out.2]; rfl, E⟩
  have hb3 : ¬ (60 : Int) < (T.length : Int) := by omega
  by_cases hb2 : 60 < D.length
  · have HE := Lib.hid (HMP.out.2 (.inr hb2))
    have hb4 : (60 : Int) < (D.length : Int) := by omega
    clear HMP
    go_wp2
    go_ret2
    exact ⟨by rw [HE.out.1, HE.out.2]; rfl, E⟩
  have hb4 : ¬ (60 : Int) < (D.length : Int) := by omega
  have HE := Lib.hid (HMP.out.1 (fun h => h.elim hb1 hb2))
  clear HMP
  have a1 := app_txt [45] T
  have a2 := app_txt T [47]
  have a3 := app_txt (45 :: T) [47]
  have a4 := app_txt (T ++ [47]) D
  have a5 := app_txt (45 :: (T ++ [47])) D
  have l1 : ¬ 9223372036854775807 < 1 + T.length := by omega
  have l2 : ¬ 9223372036854775807 < T.length + 1 := by omega
  have l3 : ¬ 9223372036854775807 < T.length + 1 + 1 := by omega
  have l4 : ¬ 9223372036854775807 < T.length + 1 + D.length := by omega
  have l5 : ¬ 9223372036854775807 < T.length + 1 + 1 + D.length := by omega
  by_cases hD1 : D = [49]
  · have d1 : (D == [49]) = true := by rw [hD1]; rfl
    have HJD := Lib.hid hD1
    clear hD1
    cases s
    · have HJ : Hid (joinT false T D = T) := by show _ = _; unfold joinT; rw [if_pos HJD.out]; simp
      go_wp2
      go_ret2
      exact ⟨by rw [HE.out.1, HE.out.2, HJ.out]; rfl, E⟩
    · by_cases hT0 : T = [48]
      · have t1 : (T == [48]) = true := by rw [hT0]; rfl
        have t2 : (T != [48]) = false := by rw [hT0]; rfl
        have HJ : Hid (joinT true T D = T) := by show _ = _; unfold joinT; rw [if_pos HJD.out, hT0]; simp
        clear hT0
        go_wp2
        go_ret2
        exact ⟨by rw [HE.out.1, HE.out.2, HJ.out]; rfl, E⟩
      · have t1 : (T == [48]) = false := by rw [beq_eq_false_iff_ne]; exact hT0
        have t2 : (T != [48]) = true := by rw [bne_iff_ne]; exact hT0
        have HJ : Hid (joinT true T D = 45 :: T) := by show _ = _; unfold joinT; rw [if_pos HJD.out, decide_eq_true hT0]; simp
        clear hT0
        go_wp2
        go_ret2
        exact ⟨by rw [HE.out.1, HE.out.2, HJ.out]; rfl, E⟩
  · have d1 : (D == [49]) = false := by rw [beq_eq_false_iff_ne]; exact hD1
    have HJD := Lib.hid hD1
    clear hD1
    cases s
    · have HJ : Hid (joinT false T D = T ++ 47 :: D) := by show _ = _; unfold joinT; rw [if_neg HJD.out]; simp
      go_wp2
      go_ret2
      exact ⟨by rw [HE.out.1, HE.out.2, HJ.out]; rfl, E⟩
    · by_cases hT0 : T = [48]
      · have t1 : (T == [48]) = true := by rw [hT0]; rfl
        have t2 : (T != [48]) = false := by rw [hT0]; rfl
        have HJ : Hid (joinT true T D = T ++ 47 :: D) := by show _ = _; unfold joinT; rw [if_neg HJD.out, hT0]; simp
        clear hT0
        go_wp2
        go_ret2
        exact ⟨by rw [HE.out.1, HE.out.2, HJ.out]; rfl, E⟩
      · have t1 : (T == [48]) = false := by rw [beq_eq_false_iff_ne]; exact hT0
        have t2 : (T != [48]) = true := by rw [bne_iff_ne]; exact hT0
        have HJ : Hid (joinT true T D = 45 :: (T ++ 47 :: D)) := by show _ = _; unfold joinT; rw [if_neg HJD.out, decide_eq_true hT0]; simp
        clear hT0
        go_wp2
        go_ret2
        exact ⟨by rw [HE.out.1, HE.out.2, HJ.out]; rfl, E⟩
end Go.Proofs.YtmndcdjcodfchaaGreatDoor
namespace Go.Proofs.YtmndcdjcodfchaaGreatDoor
open Go.RowKit
open Go.Lib (decDigits)
theorem neg_int {s : Txt} (h : IntS s) : decide (intV s < 0) = negS s := by
  unfold intV
  cases hn : negS s with
  | false => rw [if_neg (by simp)]; exact decide_eq_false (by omega)
  | true =>
    rw [if_pos rfl]
    refine decide_eq_true ?_
    have h0 : decV (bareS s) ≠ 0 := fun e => by
      have h1 := canon_zero h.1 e
      have h2 := neg_cons hn
      rw [h1] at h2
      exact h.2 h2
    omega
end Go.Proofs.YtmndcdjcodfchaaGreatDoor
namespace Go.Proofs.YtmndcdjcodfchaaGreatDoor
open Go.RowKit
set_option maxHeartbeats 4000000 in
set_option maxRecDepth 100000 in
theorem longR_any (x : Nat) (hx : x < 9223372036854775808) (w : World) :
    Calls Tryz.prog 116 #[.int .i64 (x : Int)] w (OwnNPost .i64 3 (toB 1000000 x) w) := by
  obtain ⟨i0, hi, hi0, hi1, hi2⟩ := info_parts infoI64
  have hlen : (toB 1000000 x).length ≤ 4 := toB_len (by omega) 4 (by omega)
  obtain ⟨l, hl⟩ : ∃ l, l = toB 1000000 x := ⟨_, rfl⟩
  rw [← hl] at hlen ⊢
  have HL := Lib.hid hl
  clear hl
  go_enter Tryz.func116, Tryz.ntmps116
  go_wp2
  go_loopw [0, 3] (fun n v wr => ∃ (j m : Nat) (vv : Value), n = .int .i64 (m : Int) ∧ v = vv ∧ m < 9223372036854775808 ∧ Hid (m = x / 1000000 ^ j) ∧ j ≤ l.length ∧ Hid (OwnsN .i64 3 wr vv (l.take j)) ∧ Hid (∀ b, vv.ownBlock = some b → w.heap.size ≤ b) ∧ Ext w wr) (fun n _ _ => (intOf n).toNat)
  case atStart => exact ⟨0, x, _, rfl, rfl, hx, by show _ = _; simp, Nat.zero_le _, OwnsN.nil _ _ _, (fun b hb => by cases hb), Ext.refl _⟩
  case round =>
    obtain ⟨j, m, vv, rfl, hvv, hm, hmx, hj, HO, HN, he⟩ := hrel
    obtain rfl := hvv.symm
    by_cases h0 : m = 0
    · have HF : Hid (l.take j = l) := by
        have h1 : ¬ j < l.length := fun h => by
          rw [HL.out] at h
          exact (len_toB (by omega) j x).1 h (by rw [← hmx.out]; exact h0)
        show _ = _
        exact List.take_of_length_le (by omega)
      subst h0
      clear hmx
      go_wp2
      go_ret
      exact ⟨_, rfl, by rw [HF.out] at HO; exact HO.out, HN.out, he⟩
    · have hjl : j < l.length := by
        rw [HL.out]
        exact (len_toB (by omega) j x).2 (by rw [← hmx.out]; exact h0)
      obtain ⟨r, hr⟩ : ∃ r, r = m % 1000000 := ⟨_, rfl⟩
      obtain ⟨d, hd⟩ : ∃ d, d = m / 1000000 := ⟨_, rfl⟩
      have HR : Hid (l.take (j + 1) = l.take j ++ [r]) := by
        show _ = _
        have e : l.getD j 0 = x / 1000000 ^ j % 1000000 := by rw [HL.out]; exact getD_toB (by omega) j x
        rw [take_last hjl, hr, hmx.out, e]
      have HD : Hid (d = x / 1000000 ^ (j + 1)) := by
        show _ = _
        rw [hd, hmx.out, Nat.div_div_eq_div_mul, Nat.pow_succ]
      have ht1 : (m : Int).tmod 1000000 = (r : Int) := by rw [Int.tmod_eq_emod_of_nonneg (by omega)]; omega
      have ht2 : (m : Int).tdiv 1000000 = (d : Int) := by rw [Int.tdiv_eq_ediv_of_nonneg (by omega)]; omega
      have hw4 : IntKind.i64.wrap (d : Int) = (d : Int) := by rw [IntKind.wrap_i64]; omega
      have hdm : d < m := by omega
      have hm0 : (0 : Int) < (m : Int) := by omega
      have hlt : (l.take j).length ≤ 4 := by rw [List.length_take]; omega
      generalize l.take j = o at HO HR hlt
      clear hr hd hmx h0
      go_wp2_with (at_builtin; refine wpList_append1 _ rfl _ _ 123 rfl 3 i0 (.int .i64 0) 1 8 Tryz.underlying123 hi hi0 hi1 hi2 rfl (by decide) vv o.length (natsV .i64 o) rfl (HO.out.ext ((Ext.refl _).alloc _)) ⟨wr.heap.size, 0, none⟩ 1 1 (by decide) [.int .i64 (r : Int)] rfl rfl (cells_one _ _ _) (by intro u hu; simp at hu; subst hu; rfl) (by unfold maxLen; omega) (by omega) ?_)
      all_goals
        intro v' w5 hown5 hend5
        have OB5 : Hid (∀ b, v'.ownBlock = some b → w.heap.size ≤ b) := hend5.ge (n := w.heap.size) (by have := he.size; simp; omega) HN.out
        have O5 : Hid (OwnsN .i64 3 w5 v' (l.take (j + 1))) := by show OwnsN _ _ _ _ _; rw [HR.out]; exact ownsN_succ hown5
        have B5 : Ext w w5 := (he.trans ((Ext.refl _).alloc _)).trans' (hend5.below (n := w.heap.size) (by have := he.size; simp; omega) HN.out) (Nat.le_refl _)
        clear hown5 hend5 HO
        go_wp2
        refine ⟨⟨j + 1, d, v', by go_num, rfl, by omega, HD, by omega, O5, OB5, B5⟩, by simp [intOf]; omega⟩
end Go.Proofs.YtmndcdjcodfchaaGreatDoor
namespace Go.Proofs.YtmndcdjcodfchaaGreatDoor
open Go.RowKit
open Go.Lib (decDigits itoa)
set_option maxHeartbeats 4000000 in
set_option maxRecDepth 100000 in
theorem textI_any (n : Int) (w : World) (h1 : -9223372036854775808 ≤ n) (h2 : n ≤ 9223372036854775807) :
    Calls Tryz.prog 94 #[.int .i64 n] w fun e w' => e = .returned (txt (itoa n)) ∧ Ext w w' := by
  by_cases hn : n < 0
  · have hit : itoa n = 45 :: decDigits n.natAbs := by rw [itoa_eq, if_pos hn]
    obtain ⟨x, hx⟩ : ∃ x : Nat, x = (-(n + 1)).natAbs := ⟨_, rfl⟩
    have hxn : n.natAbs = x + 1 := by omega
    have hw1 : IntKind.i64.wrap (n + 1) = n + 1 := by rw [IntKind.wrap_i64]; omega
    have hw2 : IntKind.i64.wrap (-(n + 1)) = (x : Int) := by rw [IntKind.wrap_i64]; omega
    have hw3 : -(n + 1) = (x : Int) := by omega
    have hw4 : IntKind.i64.wrap (x : Int) = (x : Int) := by rw [IntKind.wrap_i64]; omega
    have hl1 : (toB 1000000 x).length ≤ 100 := Nat.le_trans (toB_len (by omega) 4 (by omega)) (by omega)
    have hl2 : (toB 1000000 (x + 1)).length ≤ 110 := Nat.le_trans (toB_len (by omega) 4 (by omega)) (by omega)
    have HL := Lib.hid (fun W => longR_any x (by omega) W)
    have hdl := dec_len19 (n := x + 1) (by omega)
    have H1 : Hid ([1] = toB 1000000 1) := (toB_one (by omega) (by omega) (by omega)).symm
    have happ := app_txt [45] (decDigits (x + 1))
    have hcat : ¬ 9223372036854775807 < 1 + (decDigits (x + 1)).length := by omega
    have HD := Lib.hid (fun W a c (h : CellsN .i64 W a (toB 1000000 (x + 1))) => digitsR_any (x + 1) _ a c W rfl hl2 h)
    rw [hit, hxn]
    clear hx hxn hit
    generalize decDigits (x + 1) = D at *
    go_enter Tryz.func94, Tryz.ntmps94
    go_wp2_with (go_at_call 116; refine (HL.out _).mono ?_; rintro e w5 ⟨v5, rfl, o5, n5, e5⟩)
    obtain ⟨a5, c5, rfl, oc5, _, _⟩ := o5.reads
    have C5 := Lib.hid (oc5.ext ((Ext.refl w5).alloc (.cells #[.int .i64 (1 : Nat)] 3)))
    clear o5 n5 oc5
    go_wp2_with (go_at_call 111; refine (plusR_any x 1 _ [1] a5 _ c5 1 _ rfl H1.out (by omega) (by simp) C5.out (cells_one' 1 w5)).mono ?_; rintro e w6 ⟨v6, rfl, o6, n6, e6⟩)
    obtain ⟨a6, c6, rfl, oc6, _, _⟩ := o6.reads
    have E6 : Ext w w6 := (e5.trans ((Ext.refl _).alloc _)).trans e6
    have HT := Lib.hid (HD.out w6 a6 c6 oc6)
    clear o6 n6 oc6 e6 e5 C5
    go_wp2_with ((go_at_call 115; (with_reducible refine (HT.out).mono ?_); rintro e w1 ⟨rfl, hE⟩))
    go_ret
    exact ⟨rfl, E6.trans hE⟩
  · have hit : itoa n = decDigits n.natAbs := by rw [itoa_eq, if_neg hn]
    obtain ⟨x, rfl⟩ : ∃ x : Nat, n = (x : Int) := ⟨n.toNat, by omega⟩
    have hl2 : (toB 1000000 x).length ≤ 110 := Nat.le_trans (toB_len (by omega) 4 (by omega)) (by omega)
    have HL := Lib.hid (fun W => longR_any x (by omega) W)
    have HD := Lib.hid (fun W a c (h : CellsN .i64 W a (toB 1000000 x)) => digitsR_any x _ a c W rfl hl2 h)
    rw [hit, Int.natAbs_natCast]
    clear hit
    go_enter Tryz.func94, Tryz.ntmps94
    go_wp2_with (go_at_call 116; refine (HL.out _).mono ?_; rintro e w5 ⟨v5, rfl, o5, n5, e5⟩)
    obtain ⟨a5, c5, rfl, oc5, _, _⟩ := o5.reads
    have HT := Lib.hid (HD.out w5 a5 c5 oc5)
    clear o5 n5 oc5
    go_wp2_with ((go_at_call 115; (with_reducible refine (HT.out).mono ?_); rintro e w1 ⟨rfl, hE⟩))
    go_ret
    exact ⟨rfl, e5.trans hE⟩
set_option maxHeartbeats 4000000 in
theorem wholeR_any (n : Int) (w : World) (h1 : -9223372036854775808 ≤ n) (h2 : n ≤ 9223372036854775807) :
    Calls Tryz.prog 58 #[.int .i64 n] w fun e w' => e = .returned (txt (itoa n)) ∧ Ext w w' := by
  have HT := Lib.hid (fun W => textI_any n W h1 h2)
  go_enter Tryz.func58, Tryz.ntmps58
  go_wp2_with ((go_at_call 94; (with_reducible refine (HT.out _).mono ?_); rintro e w1 ⟨rfl, hE⟩))
  go_ret
  exact ⟨rfl, hE⟩
end Go.Proofs.YtmndcdjcodfchaaGreatDoor
namespace Go.Proofs.YtmndcdjcodfchaaGreatDoor
open Go.RowKit Go.ChangeShapes Go.WideShapes Go.Joins Go.Deep
theorem cellsFrac : Tryz.prog.cellsOf 41 = 1 := by kernel_rfl
section
variable {H : Type} {enc : TypeId × Value → H} {w : World} {base : Nat} {spare : Nat → Bool} {held : Bool}
set_option maxRecDepth 100000 in
theorem open_txts {r : Reach} {b0 : Nat} {v : Value} {d : DataW H} {p : List MemPlace} (hv : Value.okWide Tryz.prog w r b0 39 v) (h : DataW.Trod enc Tryz.prog w base spare held 39 v d p) :
    ∃ (l : List Txt) (a : Option Addr) (cap : Nat), v = .slice a l.length cap ∧ CellsT w a l ∧ l.length ≤ 9223372036854775807 := by
  have key : v.cells.toList = [v] := by
    simp only [Value.okWide, Tryz.underlying39] at hv
    cases v <;> first | rfl | (simp [Cell.okWide, Cell.ok, Tryz.underlying39] at hv)
  obtain ⟨fuel, hf⟩ := h
  rw [key] at hf
  rcases open_strings Tryz.underlying39 Tryz.underlying41 cellsFrac hf with ⟨h1, _⟩ | ⟨a, len, cap, ss, h1, _, hl, hm, hlen, _, hc, _⟩
  · simp at h1
    exact ⟨[], none, 0, h1, (fun i hi => by simp at hi), by simp⟩
  · simp at h1
    have hle : len ≤ ss.length := by rw [hlen]; split <;> omega
    have hll : ((ss.take len).map fun s => s.data.toList).length = len := by rw [List.length_map, List.length_take]; omega
    refine ⟨(ss.take len).map fun s => s.data.toList, some a, cap, by rw [hll]; exact h1, fun i hi => ?_, ?_⟩
    · rw [hll] at hi
      have h2 := hc i (by omega)
      obtain ⟨b, off, spot⟩ := a
      have hs : spot = none := by
        have h0 := World.cell?_spot (hc 0 (by omega))
        simpa [Addr.add] using h0
      subst hs
      refine ⟨b, off, rfl, ?_⟩
      rw [Addr.add_lit] at h2
      rw [h2]
      have hi2 : i < ss.length := by omega
      have e : (ss.take len)[i]? = some ss[i] := by rw [List.getElem?_take, if_pos hi, List.getElem?_eq_getElem hi2]
      have e2 : ((ss.take len).map fun s => s.data.toList).getD i [] = ss[i].data.toList := by
        rw [List.getD_eq_getElem?_getD, List.getElem?_map, e]; rfl
      rw [e2, List.getD_eq_getElem?_getD, List.getElem?_eq_getElem hi2]
      rfl
    · have : maxLen ≤ 9223372036854775807 := by decide
      rw [hll]; omega
end
end Go.Proofs.YtmndcdjcodfchaaGreatDoor
namespace Go.Proofs.YtmndcdjcodfchaaGreatDoor
open Go.RowKit
open Go.Lib (decDigits itoa)
theorem head_of {s : Txt} (hne : s ≠ []) : ∃ c, (∀ k, (⟨s.toArray⟩ : ByteArray)[0]'k = c) ∧ ((c.toNat : Int) == 45) = negS s ∧ 0 < s.length := by
  obtain ⟨c, m, hcm⟩ := List.exists_cons_of_ne_nil hne
  exact ⟨c, fun _ => by subst hcm; rfl, head_neg hcm, by rw [hcm]; simp⟩
theorem neg_top {a : Txt} (h : fracE a = 0) : a ≠ [] ∧ negS a = negS (topS a) := by
  obtain ⟨h1, _⟩ := frac_parts h
  have hne : topS a ≠ [] := fun e => h1.1.2.1 (by rw [e]; rfl)
  by_cases hs : 47 ∈ a
  · have e := split_some hs
    generalize topS a = t at *
    obtain ⟨c, m, rfl⟩ := List.exists_cons_of_ne_nil hne
    rw [e]
    exact ⟨by simp, rfl⟩
  · obtain ⟨e, _⟩ := split_none hs
    rw [e] at hne ⊢
    exact ⟨hne, rfl⟩
theorem signum_eq {a : Txt} (h : fracE a = 0) : (fracQ a).num.sign = if negS a then -1 else if a = [48] then 0 else 1 := by
  obtain ⟨h1, _⟩ := frac_parts h
  obtain ⟨_, h2⟩ := neg_top h
  have h3 := (frac_num h).1
  have h4 := neg_int h1
  rw [← h2] at h4
  by_cases hn : negS a = true
  · rw [if_pos hn]
    rw [hn, decide_eq_true_eq] at h4
    rw [h3]
    exact Int.sign_eq_neg_one_of_neg h4
  · rw [if_neg hn]
    have h5 : negS a = false := by simpa using hn
    rw [h5, decide_eq_false_iff_not] at h4
    by_cases h0 : a = [48]
    · rw [if_pos h0, ((Good.any h).zero).1 h0]; rfl
    · rw [if_neg h0]
      refine Int.sign_eq_one_of_pos ?_
      have h6 : (fracQ a).num ≠ 0 := fun e => h0 ((Good.any h).zero.2 (Rat.num_eq_zero.1 e))
      omega
set_option maxHeartbeats 2000000 in
theorem rSignum_any (a : Txt) (w : World) (hf : fracE a = 0) : Calls Tryz.prog 55 #[txt a] w fun e w' => e = .returned (.int .i64 (fracQ a).num.sign) ∧ w' = w := by
  have HS := Lib.hid (signum_eq hf)
  obtain ⟨c, hget, hc, hpos⟩ := head_of (neg_top hf).1
  have hi : (0 : Int) < (a.length : Int) := by omega
  rw [HS.out]
  clear HS hf
  by_cases hn : negS a = true
  · rw [if_pos hn]
    rw [hn] at hc
    clear hn
    go_enter Tryz.func55, Tryz.ntmps55
    go_wp2
    go_ret
    exact ⟨rfl, rfl⟩
  · rw [if_neg hn]
    have h5 : negS a = false := by simpa using hn
    rw [h5] at hc
    clear hn h5
    by_cases h0 : a = [48]
    · rw [if_pos h0]
      have hz : (a == [48]) = true := by rw [h0]; rfl
      clear h0
      go_enter Tryz.func55, Tryz.ntmps55
      go_wp2
      go_ret
      exact ⟨rfl, rfl⟩
    · rw [if_neg h0]
      have hz : (a == [48]) = false := by rw [beq_eq_false_iff_ne]; exact h0
      clear h0
      go_enter Tryz.func55, Tryz.ntmps55
      go_wp2
      go_ret
      exact ⟨rfl, rfl⟩
set_option maxHeartbeats 2000000 in
theorem rBoth_any (a b : Txt) (w : World) (ha : a.length ≤ 400) (hb : b.length ≤ 400) :
    Calls Tryz.prog 131 #[txt a, txt b] w fun e w' => e = .returned (.int .i64 (bothE a b : Nat)) ∧ Ext w w' := by
  have HC := Lib.hid (checkR_any a w ha)
  have HD := Lib.hid (fun W => checkR_any b W hb)
  unfold bothE
  by_cases ea : fracE a = 0
  · rw [if_pos ea]
    rw [ea] at HC
    clear ea
    go_enter Tryz.func131, Tryz.ntmps131
    go_wp2_with (first
      | (go_at_call 54; with_reducible refine HC.out.mono ?_; rintro e w1 ⟨rfl, hE⟩)
      | (go_at_call 54; with_reducible refine (HD.out _).mono ?_; rintro e w2 ⟨rfl, hE2⟩))
    go_ret
    exact ⟨rfl, hE.trans hE2⟩
  · rw [if_neg ea]
    have hne : (((fracE a : Nat) : Int) != 0) = true := by rw [bne_iff_ne]; omega
    clear ea
    generalize fracE a = n at *
    go_enter Tryz.func131, Tryz.ntmps131
    go_wp2_with (go_at_call 54; with_reducible refine HC.out.mono ?_; rintro e w1 ⟨rfl, hE⟩)
    go_ret
    exact ⟨rfl, hE⟩
end Go.Proofs.YtmndcdjcodfchaaGreatDoor
namespace Go.Proofs.YtmndcdjcodfchaaGreatDoor
open Go.RowKit
open Go.Lib (decDigits itoa)
theorem mul_lenR {x y m n : Nat} (hx : (toB 1000000 x).length ≤ m) (hy : (toB 1000000 y).length ≤ n) : (toB 1000000 (x * y)).length ≤ m + n := by
  have lt : ∀ {z k : Nat}, (toB 1000000 z).length ≤ k → z < 1000000 ^ k := fun {z k} h => by
    have h1 := valB_lt (okB_toB (B := 1000000) (by omega) z)
    rw [valB_toB (by omega)] at h1
    exact Nat.lt_of_lt_of_le h1 (Nat.pow_le_pow_right (by omega) h)
  refine toB_len (by omega) _ ?_
  rw [Nat.pow_add]
  exact Nat.mul_lt_mul'' (lt hx) (lt hy)
set_option maxHeartbeats 2000000 in
theorem rTurn_any (x : Num) (v : Value) (w : World) (hv : NumR w v x) : Calls Tryz.prog 91 #[v] w (NumPost (negN x) w) := by
  obtain ⟨ta, tc, ba, bc, rfl, h1, h2⟩ := hv
  obtain ⟨s, t, d⟩ := x
  have H1 := Lib.hid h1
  have H2 := Lib.hid h2
  dsimp only at H1 H2 ⊢
  clear h1 h2
  have HN : Hid (∀ W, Ext w W → NumPost (negN (s, t, d)) w (.returned (.agg #[.bool (!s), .slice ta (toB 1000000 t).length tc, .slice ba (toB 1000000 d).length bc])) W) := fun W hW => ⟨_, rfl, ⟨ta, tc, ba, bc, rfl, H1.out.ext hW, H2.out.ext hW⟩, hW⟩
  generalize toB 1000000 t = lt at *
  generalize toB 1000000 d = ld at *
  go_enter Tryz.func91, Tryz.ntmps91
  go_wp2
  refine bodyPost_ret (v := .agg #[.bool (!s), .slice ta lt.length tc, .slice ba ld.length bc]) (by rw [results_cell1 rfl]; go_simp) rfl ?_
  exact HN.out _ extA
def NewBR (x : Nat) (w : World) (e : Ending) (w' : World) : Prop := ∃ a c, e = .returned (.slice a (toB 1000000 x).length c) ∧ CellsN .i64 w' a (toB 1000000 x) ∧ (∀ p, a = some p → w.heap.size ≤ p.block) ∧ Ext w w'
theorem OwnNPost.newBR {x : Nat} {w : World} {e : Ending} {w' : World} (h : OwnNPost .i64 3 (toB 1000000 x) w e w') : NewBR x w e w' := by
  obtain ⟨v, h1, h2, h3, h4⟩ := h
  obtain ⟨a, c, rfl, h5, _⟩ := h2.reads
  exact ⟨a, c, h1, h5, (fun p hp => h3 p.block (by rw [hp]; rfl)), h4⟩
set_option maxHeartbeats 8000000 in
set_option maxRecDepth 100000 in
theorem rProd_any (x y : Num) (v u : Value) (w : World) (hv : NumR w v x) (hu : NumR w u y) (hx : LenR 40 x) (hy : LenR 40 y) :
    Calls Tryz.prog 133 #[v, u] w (NumPost (mulN x y) w) := by
  obtain ⟨ta, tc, ba, bc, rfl, h1, h2⟩ := hv
  obtain ⟨ua, uc, va, vc, rfl, h3, h4⟩ := hu
  obtain ⟨s, t, d⟩ := x
  obtain ⟨r, p, q⟩ := y
  obtain ⟨l1, l2⟩ := hx
  obtain ⟨l3, l4⟩ := hy
  dsimp only at h1 h2 h3 h4 l1 l2 l3 l4 ⊢
  have HT1 := Lib.hid (fun W (hW : Ext w W) => (timesR_any t p _ _ ta ua tc uc W rfl rfl (by omega) (by omega) (h1.ext hW) (h3.ext hW)).mono fun _ _ h => h.newBR)
  have HT2 := Lib.hid (fun W (hW : Ext w W) => (timesR_any d q _ _ ba va bc vc W rfl rfl (by omega) (by omega) (h2.ext hW) (h4.ext hW)).mono fun _ _ h => h.newBR)
  have HSN := Lib.hid (show mulN (s, t, d) (r, p, q) = (s != r, t * p, d * q) from rfl)
  rw [HSN.out]
  generalize t * p = X1 at *
  generalize d * q = X2 at *
  clear h1 h2 h3 h4 HSN
  have E : Ext w (((w.alloc (.cells #[.bool s, (.slice ta (toB 1000000 t).length tc), (.slice ba (toB 1000000 d).length bc)] 128)).alloc (.cells #[.bool r, (.slice ua (toB 1000000 p).length uc), (.slice va (toB 1000000 q).length vc)] 128)).alloc (.cells #[.bool false, .slice none 0 0, .slice none 0 0] 128)) := extA
  have A : Num3 w.heap.size (((w.alloc (.cells #[.bool s, (.slice ta (toB 1000000 t).length tc), (.slice ba (toB 1000000 d).length bc)] 128)).alloc (.cells #[.bool r, (.slice ua (toB 1000000 p).length uc), (.slice va (toB 1000000 q).length vc)] 128)).alloc (.cells #[.bool false, .slice none 0 0, .slice none 0 0] 128)) (.bool s) (.slice ta (toB 1000000 t).length tc) (.slice ba (toB 1000000 d).length bc) := ⟨by go_simp, by go_simp, by go_simp, by go_simp, by go_simp, by go_simp⟩
  have B : Num3 (w.heap.size + 1) (((w.alloc (.cells #[.bool s, (.slice ta (toB 1000000 t).length tc), (.slice ba (toB 1000000 d).length bc)] 128)).alloc (.cells #[.bool r, (.slice ua (toB 1000000 p).length uc), (.slice va (toB 1000000 q).length vc)] 128)).alloc (.cells #[.bool false, .slice none 0 0, .slice none 0 0] 128)) (.bool r) (.slice ua (toB 1000000 p).length uc) (.slice va (toB 1000000 q).length vc) := ⟨by go_simp, by go_simp, by go_simp, by go_simp, by go_simp, by go_simp⟩
  have R : Num3 (w.heap.size + 1 + 1) (((w.alloc (.cells #[.bool s, (.slice ta (toB 1000000 t).length tc), (.slice ba (toB 1000000 d).length bc)] 128)).alloc (.cells #[.bool r, (.slice ua (toB 1000000 p).length uc), (.slice va (toB 1000000 q).length vc)] 128)).alloc (.cells #[.bool false, .slice none 0 0, .slice none 0 0] 128)) (.bool false) (.slice none 0 0) (.slice none 0 0) := ⟨by go_simp, by go_simp, by go_simp, by go_simp, by go_simp, by go_simp⟩
  go_enter Tryz.func133, Tryz.ntmps133
  go_wp2_with fail
  generalize (((w.alloc (.cells #[.bool s, (.slice ta (toB 1000000 t).length tc), (.slice ba (toB 1000000 d).length bc)] 128)).alloc (.cells #[.bool r, (.slice ua (toB 1000000 p).length uc), (.slice va (toB 1000000 q).length vc)] 128)).alloc (.cells #[.bool false, .slice none 0 0, .slice none 0 0] 128)) = W at E A B R ⊢
  have hdr : Ext W W.drew := extA
  replace A := A.ext hdr
  replace B := B.ext hdr
  replace R := R.ext hdr
  replace E := E.trans hdr
  have hS : W.drew.cell? ⟨w.heap.size, 0, none⟩ = some (.bool s) ∧ W.drew.cell? ⟨w.heap.size + 1, 0, none⟩ = some (.bool r) ∧ W.drew.cell? ⟨w.heap.size, 1, none⟩ = some (.slice ta (toB 1000000 t).length tc) ∧ W.drew.cell? ⟨w.heap.size + 1, 1, none⟩ = some (.slice ua (toB 1000000 p).length uc) ∧ W.drew.cell? ⟨w.heap.size, 2, none⟩ = some (.slice ba (toB 1000000 d).length bc) ∧ W.drew.cell? ⟨w.heap.size + 1, 2, none⟩ = some (.slice va (toB 1000000 q).length vc) := ⟨A.c0, B.c0, A.c1, B.c1, A.c2, B.c2⟩
  refine wp_region_heldE 16 (fun w' => w'.cell? ⟨w.heap.size, 0, none⟩ = some (.bool s) ∧ w'.cell? ⟨w.heap.size + 1, 0, none⟩ = some (.bool r) ∧ w'.cell? ⟨w.heap.size, 1, none⟩ = some (.slice ta (toB 1000000 t).length tc) ∧ w'.cell? ⟨w.heap.size + 1, 1, none⟩ = some (.slice ua (toB 1000000 p).length uc) ∧ w'.cell? ⟨w.heap.size, 2, none⟩ = some (.slice ba (toB 1000000 d).length bc) ∧ w'.cell? ⟨w.heap.size + 1, 2, none⟩ = some (.slice va (toB 1000000 q).length vc)) (by kernel_rfl) ?_
  clear hdr A B
  generalize W.drew = W at E R hS ⊢
  ((refine eTk 0 ?_); (refine eTk 1 ?_); (refine eTk 2 ?_); (refine eTk 3 ?_); (refine eTk 5 ?_); (refine eTk 6 ?_); (refine eTk 7 ?_); (refine eTk 8 ?_); (refine eTk 10 ?_); (refine eTk 11 ?_); (refine eTk 12 ?_); (refine eTk 13 ?_))
  (refine ePu 4 ?_)
  (refine wpAnyE_one (i := 9) (o := ?_) ?_ (by kernel_rfl) (fun K hK => ?_); rotate_left; (focus ((simp only [List.getElem?_toArray, List.getElem?_cons_succ, List.getElem?_cons_zero]; exact rfl))); go_simp; go_at_call 110; refine (HT1.out _ E).mono ?_; rintro e w1 ⟨xa, xc, rfl, hx, hxn, hE⟩; go_wp2_with fail; refine hK.out _ _ ?_ (fun hHeld => ?_); rotate_left; clear hK K; (try simp only [Act.put, List.setIfInBounds_toArray, List.set_cons_zero, List.set_cons_succ]))
  rotate_left
  · exact ⟨hE.cell hS.1, hE.cell hS.2.1, hE.cell hS.2.2.1, hE.cell hS.2.2.2.1, hE.cell hS.2.2.2.2.1, hE.cell hS.2.2.2.2.2⟩
  have hS1 : w1.cell? ⟨w.heap.size, 0, none⟩ = some (.bool s) ∧ w1.cell? ⟨w.heap.size + 1, 0, none⟩ = some (.bool r) ∧ w1.cell? ⟨w.heap.size, 1, none⟩ = some (.slice ta (toB 1000000 t).length tc) ∧ w1.cell? ⟨w.heap.size + 1, 1, none⟩ = some (.slice ua (toB 1000000 p).length uc) ∧ w1.cell? ⟨w.heap.size, 2, none⟩ = some (.slice ba (toB 1000000 d).length bc) ∧ w1.cell? ⟨w.heap.size + 1, 2, none⟩ = some (.slice va (toB 1000000 q).length vc) := ⟨hE.cell hS.1, hE.cell hS.2.1, hE.cell hS.2.2.1, hE.cell hS.2.2.2.1, hE.cell hS.2.2.2.2.1, hE.cell hS.2.2.2.2.2⟩
  have hz : w.heap.size + 1 + 1 < W.heap.size := cell_lt R.c0
  have hz1 := hE.size
  have N1 : 0 < (toB 1000000 X1).length → ∀ z, xa = some z → z.block ≠ w.heap.size + 1 + 1 := fun hl z hz => by have := hxn z hz; omega
  replace R := R.ext hE
  replace E := E.trans hE
  have HX := Lib.hid hx
  clear hS hE hx hxn hHeld
  have hS := hS1
  (refine wpAnyE_one (i := 14) (o := ?_) ?_ (by kernel_rfl) (fun K hK => ?_); rotate_left; (focus ((simp only [List.getElem?_toArray, List.getElem?_cons_succ, List.getElem?_cons_zero]; exact rfl))); go_simp; go_at_call 110; refine (HT2.out _ E).mono ?_; rintro e w2 ⟨ya, yc, rfl, hy, hyn, hE⟩; go_wp2_with fail; refine hK.out _ _ ?_ (fun hHeld => ?_); rotate_left; clear hK K; (try simp only [Act.put, List.setIfInBounds_toArray, List.set_cons_zero, List.set_cons_succ]))
  rotate_left
  · exact ⟨hE.cell hS1.1, hE.cell hS1.2.1, hE.cell hS1.2.2.1, hE.cell hS1.2.2.2.1, hE.cell hS1.2.2.2.2.1, hE.cell hS1.2.2.2.2.2⟩
  have hS2 : w2.cell? ⟨w.heap.size, 0, none⟩ = some (.bool s) ∧ w2.cell? ⟨w.heap.size + 1, 0, none⟩ = some (.bool r) ∧ w2.cell? ⟨w.heap.size, 1, none⟩ = some (.slice ta (toB 1000000 t).length tc) ∧ w2.cell? ⟨w.heap.size + 1, 1, none⟩ = some (.slice ua (toB 1000000 p).length uc) ∧ w2.cell? ⟨w.heap.size, 2, none⟩ = some (.slice ba (toB 1000000 d).length bc) ∧ w2.cell? ⟨w.heap.size + 1, 2, none⟩ = some (.slice va (toB 1000000 q).length vc) := ⟨hE.cell hS1.1, hE.cell hS1.2.1, hE.cell hS1.2.2.1, hE.cell hS1.2.2.2.1, hE.cell hS1.2.2.2.2.1, hE.cell hS1.2.2.2.2.2⟩
  have hz2 := hE.size
  have N2 : 0 < (toB 1000000 X2).length → ∀ z, ya = some z → z.block ≠ w.heap.size + 1 + 1 := fun hl z hz => by have := hyn z hz; omega
  replace R := R.ext hE
  replace E := E.trans hE
  replace HX := Lib.hid (HX.out.ext hE)
  have HY := Lib.hid hy
  have HN1 := Lib.hid N1
  have HN2 := Lib.hid N2
  clear hS hS1 hE hy hyn hHeld N1 N2
  obtain ⟨r0, r1, r2, f0, f1, f2⟩ := R
  ((refine ePu 15 ?_))
  clear hS2
  (refine wpAnyE_free (i := 16) (o := ?_) ?_ (by kernel_rfl) (by kernel_rfl) (fun K hK => ?_); rotate_left; (focus ((simp only [List.getElem?_toArray, List.getElem?_cons_succ, List.getElem?_cons_zero]; exact rfl))); go_simp; refine hK.out _ _ ?_; clear hK K; (try simp only [Act.put, List.setIfInBounds_toArray, List.set_cons_zero, List.set_cons_succ]))
  refine wpAnyE_done (by kernel_rfl) ?_ _
  go_wp2_with fail
  refine bodyPost_ret (v := .agg #[.bool (!(s == r)), .slice xa (toB 1000000 X1).length xc, .slice ya (toB 1000000 X2).length yc]) (by rw [results_cell1 rfl]; go_simp) rfl ?_
  exact ⟨_, rfl, ⟨xa, xc, ya, yc, rfl, HX.out.three HN1.out, HY.out.three HN2.out⟩, extA⟩
set_option maxHeartbeats 8000000 in
set_option maxRecDepth 100000 in
theorem rSum_any (x y : Num) (v u : Value) (w : World) (hv : NumR w v x) (hu : NumR w u y) (hx : LenR 40 x) (hy : LenR 40 y) :
    Calls Tryz.prog 89 #[v, u] w (NumPost (sumN x y) w) := by
  obtain ⟨ta, tc, ba, bc, rfl, h1, h2⟩ := hv
  obtain ⟨ua, uc, va, vc, rfl, h3, h4⟩ := hu
  obtain ⟨s, t, d⟩ := x
  obtain ⟨r, p, q⟩ := y
  obtain ⟨l1, l2⟩ := hx
  obtain ⟨l3, l4⟩ := hy
  dsimp only at h1 h2 h3 h4 l1 l2 l3 l4 ⊢
  have m1 := mul_lenR l1 l4
  have m2 := mul_lenR l3 l2
  have HT1 := Lib.hid (fun W (hW : Ext w W) => (timesR_any t q _ _ ta va tc vc W rfl rfl (by omega) (by omega) (h1.ext hW) (h4.ext hW)).mono fun _ _ h => h.newBR)
  have HT2 := Lib.hid (fun W (hW : Ext w W) => (timesR_any p d _ _ ua ba uc bc W rfl rfl (by omega) (by omega) (h3.ext hW) (h2.ext hW)).mono fun _ _ h => h.newBR)
  have HT3 := Lib.hid (fun W (hW : Ext w W) => (timesR_any d q _ _ ba va bc vc W rfl rfl (by omega) (by omega) (h2.ext hW) (h4.ext hW)).mono fun _ _ h => h.newBR)
  have HSN := Lib.hid (show sumN (s, t, d) (r, p, q) = if s = r then (s, t * q + p * d, d * q) else if p * d ≤ t * q then (s, t * q - p * d, d * q) else (r, p * d - t * q, d * q) from rfl)
  generalize sumN (s, t, d) (r, p, q) = SN at *
  generalize t * q = X1 at *
  generalize p * d = X2 at *
  generalize d * q = X3 at *
  clear h1 h2 h3 h4
  have E : Ext w (((w.alloc (.cells #[.bool s, (.slice ta (toB 1000000 t).length tc), (.slice ba (toB 1000000 d).length bc)] 128)).alloc (.cells #[.bool r, (.slice ua (toB 1000000 p).length uc), (.slice va (toB 1000000 q).length vc)] 128)).alloc (.cells #[.bool false, .slice none 0 0, .slice none 0 0] 128)) := extA
  have A : Num3 w.heap.size (((w.alloc (.cells #[.bool s, (.slice ta (toB 1000000 t).length tc), (.slice ba (toB 1000000 d).length bc)] 128)).alloc (.cells #[.bool r, (.slice ua (toB 1000000 p).length uc), (.slice va (toB 1000000 q).length vc)] 128)).alloc (.cells #[.bool false, .slice none 0 0, .slice none 0 0] 128)) (.bool s) (.slice ta (toB 1000000 t).length tc) (.slice ba (toB 1000000 d).length bc) := ⟨by go_simp, by go_simp, by go_simp, by go_simp, by go_simp, by go_simp⟩
  have B : Num3 (w.heap.size + 1) (((w.alloc (.cells #[.bool s, (.slice ta (toB 1000000 t).length tc), (.slice ba (toB 1000000 d).length bc)] 128)).alloc (.cells #[.bool r, (.slice ua (toB 1000000 p).length uc), (.slice va (toB 1000000 q).length vc)] 128)).alloc (.cells #[.bool false, .slice none 0 0, .slice none 0 0] 128)) (.bool r) (.slice ua (toB 1000000 p).length uc) (.slice va (toB 1000000 q).length vc) := ⟨by go_simp, by go_simp, by go_simp, by go_simp, by go_simp, by go_simp⟩
  have R : Num3 (w.heap.size + 1 + 1) (((w.alloc (.cells #[.bool s, (.slice ta (toB 1000000 t).length tc), (.slice ba (toB 1000000 d).length bc)] 128)).alloc (.cells #[.bool r, (.slice ua (toB 1000000 p).length uc), (.slice va (toB 1000000 q).length vc)] 128)).alloc (.cells #[.bool false, .slice none 0 0, .slice none 0 0] 128)) (.bool false) (.slice none 0 0) (.slice none 0 0) := ⟨by go_simp, by go_simp, by go_simp, by go_simp, by go_simp, by go_simp⟩
  go_enter Tryz.func89, Tryz.ntmps89
  go_wp2_with fail
  generalize (((w.alloc (.cells #[.bool s, (.slice ta (toB 1000000 t).length tc), (.slice ba (toB 1000000 d).length bc)] 128)).alloc (.cells #[.bool r, (.slice ua (toB 1000000 p).length uc), (.slice va (toB 1000000 q).length vc)] 128)).alloc (.cells #[.bool false, .slice none 0 0, .slice none 0 0] 128)) = W at E A B R ⊢
  have hdr : Ext W W.drew := extA
  replace A := A.ext hdr
  replace B := B.ext hdr
  replace R := R.ext hdr
  replace E := E.trans hdr
  have hS : W.drew.cell? ⟨w.heap.size, 1, none⟩ = some (.slice ta (toB 1000000 t).length tc) ∧ W.drew.cell? ⟨w.heap.size + 1, 2, none⟩ = some (.slice va (toB 1000000 q).length vc) ∧ W.drew.cell? ⟨w.heap.size + 1, 1, none⟩ = some (.slice ua (toB 1000000 p).length uc) ∧ W.drew.cell? ⟨w.heap.size, 2, none⟩ = some (.slice ba (toB 1000000 d).length bc) := ⟨A.c1, B.c2, B.c1, A.c2⟩
  refine wp_region_heldE 99 (fun w' => w'.cell? ⟨w.heap.size, 1, none⟩ = some (.slice ta (toB 1000000 t).length tc) ∧ w'.cell? ⟨w.heap.size + 1, 2, none⟩ = some (.slice va (toB 1000000 q).length vc) ∧ w'.cell? ⟨w.heap.size + 1, 1, none⟩ = some (.slice ua (toB 1000000 p).length uc) ∧ w'.cell? ⟨w.heap.size, 2, none⟩ = some (.slice ba (toB 1000000 d).length bc)) (by kernel_rfl) ?_
  clear hdr
  generalize W.drew = W at E A B R hS ⊢
  have hz : w.heap.size + 1 + 1 < W.heap.size := cell_lt R.c0
  ((refine eTk 0 ?_); (refine eTk 1 ?_); (refine eTk 2 ?_); (refine eTk 3 ?_); (refine eTk 5 ?_); (refine eTk 6 ?_); (refine eTk 7 ?_); (refine eTk 8 ?_); (refine eTk 10 ?_); (refine eTk 11 ?_); (refine eTk 12 ?_); (refine eTk 13 ?_))
  (refine wpAnyE_one (i := 4) (o := ?_) ?_ (by kernel_rfl) (fun K hK => ?_); rotate_left; (focus ((simp only [List.getElem?_toArray, List.getElem?_cons_succ, List.getElem?_cons_zero]; exact rfl))); go_simp; go_at_call 110; refine (HT1.out _ E).mono ?_; rintro e w1 ⟨xa, xc, rfl, hx, hxn, hE⟩; go_wp2_with fail; refine hK.out _ _ ?_ (fun hHeld => ?_); rotate_left; clear hK K; (try simp only [Act.put, List.setIfInBounds_toArray, List.set_cons_zero, List.set_cons_succ]))
  rotate_left
  · exact ⟨hE.cell hS.1, hE.cell hS.2.1, hE.cell hS.2.2.1, hE.cell hS.2.2.2⟩
  have hS1 : w1.cell? ⟨w.heap.size, 1, none⟩ = some (.slice ta (toB 1000000 t).length tc) ∧ w1.cell? ⟨w.heap.size + 1, 2, none⟩ = some (.slice va (toB 1000000 q).length vc) ∧ w1.cell? ⟨w.heap.size + 1, 1, none⟩ = some (.slice ua (toB 1000000 p).length uc) ∧ w1.cell? ⟨w.heap.size, 2, none⟩ = some (.slice ba (toB 1000000 d).length bc) := ⟨hE.cell hS.1, hE.cell hS.2.1, hE.cell hS.2.2.1, hE.cell hS.2.2.2⟩
  have hz1 := hE.size
  have HXN : Hid (0 < (toB 1000000 X1).length → ∀ z, xa = some z → z.block ≠ w.heap.size + 1 + 1) := fun hl z hz => by have := hxn z hz; omega
  replace A := A.ext hE
  replace B := B.ext hE
  replace R := R.ext hE
  replace E := E.trans hE
  have HX := Lib.hid hx
  clear hS hE hx hxn hHeld
  (refine wpAnyE_one (i := 9) (o := ?_) ?_ (by kernel_rfl) (fun K hK => ?_); rotate_left; (focus ((simp only [List.getElem?_toArray, List.getElem?_cons_succ, List.getElem?_cons_zero]; exact rfl))); go_simp; go_at_call 110; refine (HT2.out _ E).mono ?_; rintro e w2 ⟨ya, yc, rfl, hy, hyn, hE⟩; go_wp2_with fail; refine hK.out _ _ ?_ (fun hHeld => ?_); rotate_left; clear hK K; (try simp only [Act.put, List.setIfInBounds_toArray, List.set_cons_zero, List.set_cons_succ]))
  rotate_left
  · exact ⟨hE.cell hS1.1, hE.cell hS1.2.1, hE.cell hS1.2.2.1, hE.cell hS1.2.2.2⟩
  have hS2 : w2.cell? ⟨w.heap.size, 1, none⟩ = some (.slice ta (toB 1000000 t).length tc) ∧ w2.cell? ⟨w.heap.size + 1, 2, none⟩ = some (.slice va (toB 1000000 q).length vc) ∧ w2.cell? ⟨w.heap.size + 1, 1, none⟩ = some (.slice ua (toB 1000000 p).length uc) ∧ w2.cell? ⟨w.heap.size, 2, none⟩ = some (.slice ba (toB 1000000 d).length bc) := ⟨hE.cell hS1.1, hE.cell hS1.2.1, hE.cell hS1.2.2.1, hE.cell hS1.2.2.2⟩
  have hz2 := hE.size
  have HYN : Hid (0 < (toB 1000000 X2).length → ∀ z, ya = some z → z.block ≠ w.heap.size + 1 + 1) := fun hl z hz => by have := hyn z hz; omega
  replace A := A.ext hE
  replace B := B.ext hE
  replace R := R.ext hE
  replace E := E.trans hE
  replace HX := Lib.hid (HX.out.ext hE)
  have HY := Lib.hid hy
  clear hS1 hE hy hyn hHeld
  (refine wpAnyE_one (i := 14) (o := ?_) ?_ (by kernel_rfl) (fun K hK => ?_); rotate_left; (focus ((simp only [List.getElem?_toArray, List.getElem?_cons_succ, List.getElem?_cons_zero]; exact rfl))); go_simp; go_at_call 110; refine (HT3.out _ E).mono ?_; rintro e w3 ⟨ma, mc, rfl, hm, hmn, hE⟩; go_wp2_with fail; refine hK.out _ _ ?_ (fun hHeld => ?_); rotate_left; clear hK K; (try simp only [Act.put, List.setIfInBounds_toArray, List.set_cons_zero, List.set_cons_succ]))
  rotate_left
  · exact ⟨hE.cell hS2.1, hE.cell hS2.2.1, hE.cell hS2.2.2.1, hE.cell hS2.2.2.2⟩
  have hS3 : w3.cell? ⟨w.heap.size, 1, none⟩ = some (.slice ta (toB 1000000 t).length tc) ∧ w3.cell? ⟨w.heap.size + 1, 2, none⟩ = some (.slice va (toB 1000000 q).length vc) ∧ w3.cell? ⟨w.heap.size + 1, 1, none⟩ = some (.slice ua (toB 1000000 p).length uc) ∧ w3.cell? ⟨w.heap.size, 2, none⟩ = some (.slice ba (toB 1000000 d).length bc) := ⟨hE.cell hS2.1, hE.cell hS2.2.1, hE.cell hS2.2.2.1, hE.cell hS2.2.2.2⟩
  have hz3 := hE.size
  have HMN : Hid (0 < (toB 1000000 X3).length → ∀ z, ma = some z → z.block ≠ w.heap.size + 1 + 1) := fun hl z hz => by have := hmn z hz; omega
  replace A := A.ext hE
  replace B := B.ext hE
  replace R := R.ext hE
  replace E := E.trans hE
  replace HX := Lib.hid (HX.out.ext hE)
  replace HY := Lib.hid (HY.out.ext hE)
  have HM := Lib.hid hm
  clear hS2 hE hm hmn hHeld
  ((refine ePu 15 ?_); (refine ePu 16 ?_); (refine ePu 17 ?_))
  refine wpAnyE_done (by kernel_rfl) ?_ _
  clear hS3
  obtain ⟨a0, _, _, _, _, _⟩ := A
  obtain ⟨b0, _, _, _, _, _⟩ := B
  by_cases hsr : s = r
  · have HE : Hid (SN = (s, X1 + X2, X3)) := HSN.out.trans (by rw [if_pos hsr])
    have hsb : (s == r) = true := by rw [hsr]; exact beq_self_eq_true r
    clear HSN hsr
    go_wp2_with fail
    have hdr : Ext w3 w3.drew := extA
    have hS : w3.drew.cell? ⟨w.heap.size, 0, none⟩ = some (.bool s) := hdr.cell a0
    replace R := R.ext hdr
    replace E := E.trans hdr
    replace HX := Lib.hid (HX.out.ext hdr)
    replace HY := Lib.hid (HY.out.ext hdr)
    replace HM := Lib.hid (HM.out.ext hdr)
    have hzd : w3.drew.heap.size = w3.heap.size := rfl
    refine wp_region_heldE 7 (fun w' => w'.cell? ⟨w.heap.size, 0, none⟩ = some (.bool s)) (by kernel_rfl) ?_
    clear a0 b0 hdr
    generalize w3.drew = wd at R E HX HY HM hS hzd ⊢
    ((refine eTk 0 ?_); (refine eTk 1 ?_); (refine eTk 2 ?_); (refine eTk 3 ?_); (refine eTk 5 ?_))
    (refine wpAnyE_one (i := 4) (o := ?_) ?_ (by kernel_rfl) (fun K hK => ?_); rotate_left; (focus ((simp only [List.getElem?_toArray, List.getElem?_cons_succ, List.getElem?_cons_zero]; exact rfl))); go_simp; go_at_call 111; refine ((plusR_any X1 X2 _ _ xa ya xc yc _ rfl rfl (by omega) (by omega) HX.out HY.out).mono fun _ _ h => h.newBR).mono ?_; rintro e w4 ⟨pa, pc, rfl, hp, hpn, hE4⟩; go_wp2_with fail; refine hK.out _ _ ?_ (fun hHeld => ?_); rotate_left; clear hK K; (try simp only [Act.put, List.setIfInBounds_toArray, List.set_cons_zero, List.set_cons_succ]))
    rotate_left
    · exact hE4.cell hS
    have HPN : Hid (0 < (toB 1000000 (X1 + X2)).length → ∀ z, pa = some z → z.block ≠ w.heap.size + 1 + 1) := fun hl z hz => by have := hpn z hz; omega
    have HP := Lib.hid hp
    have R4 := R.ext hE4
    have E4 := E.trans hE4
    have HM4 := Lib.hid (HM.out.ext hE4)
    obtain ⟨c0, c1, c2, f0, f1, f2⟩ := R4
    have hSf := hE4.cell hS
    clear hE4 hp hpn R E HX HY HM hS hHeld
    (refine ePu 6 ?_)
    clear hSf
    (refine wpAnyE_free (i := 7) (o := ?_) ?_ (by kernel_rfl) (by kernel_rfl) (fun K hK => ?_); rotate_left; (focus ((simp only [List.getElem?_toArray, List.getElem?_cons_succ, List.getElem?_cons_zero]; exact rfl))); go_simp; refine hK.out _ _ ?_; clear hK K; (try simp only [Act.put, List.setIfInBounds_toArray, List.set_cons_zero, List.set_cons_succ]))
    refine wpAnyE_done (by kernel_rfl) ?_ _
    go_wp2_with fail
    refine bodyPost_ret (v := .agg #[.bool s, .slice pa (toB 1000000 (X1 + X2)).length pc, .slice ma (toB 1000000 X3).length mc]) (by rw [results_cell1 rfl]; go_simp) rfl ?_
    refine ⟨_, rfl, ?_, extA⟩
    rw [HE.out]
    exact ⟨pa, pc, ma, mc, rfl, HP.out.three HPN.out, HM4.out.three HMN.out⟩
  · have hsb : (s == r) = false := by rw [beq_eq_false_iff_ne]; exact hsr
    by_cases hle : X2 ≤ X1
    · have HE : Hid (SN = (s, X1 - X2, X3)) := HSN.out.trans (by rw [if_neg hsr, if_pos hle])
      obtain ⟨z, hz, hz0⟩ : ∃ z, ordN X1 X2 = z ∧ 0 ≤ z := ⟨_, rfl, ordN_ge.2 hle⟩
      have HLE := Lib.hid hle
      clear HSN hsr hle
      go_wp2_with fail
      refine (orderR_any X1 X2 _ _ xa ya xc yc w3 rfl rfl (by omega) (by omega) HX.out HY.out).mono ?_
      rintro e w5 ⟨rfl, hE⟩
      rw [hz]
      have hz5 := hE.size
      replace R := R.ext hE
      replace E := E.trans hE
      replace HX := Lib.hid (HX.out.ext hE)
      replace HY := Lib.hid (HY.out.ext hE)
      replace HM := Lib.hid (HM.out.ext hE)
      replace a0 := hE.cell a0
      replace b0 := hE.cell b0
      clear hE hz
      go_wp2_with fail
      have hdr : Ext w5 w5.drew := extA
      have hS : w5.drew.cell? ⟨w.heap.size, 0, none⟩ = some (.bool s) := hdr.cell a0
      replace R := R.ext hdr
      replace E := E.trans hdr
      replace HX := Lib.hid (HX.out.ext hdr)
      replace HY := Lib.hid (HY.out.ext hdr)
      replace HM := Lib.hid (HM.out.ext hdr)
      have hzd : w5.drew.heap.size = w5.heap.size := rfl
      refine wp_region_heldE 7 (fun w' => w'.cell? ⟨w.heap.size, 0, none⟩ = some (.bool s)) (by kernel_rfl) ?_
      clear a0 b0 hdr
      generalize w5.drew = wd at R E HX HY HM hS hzd ⊢
      ((refine eTk 0 ?_); (refine eTk 1 ?_); (refine eTk 2 ?_); (refine eTk 3 ?_); (refine eTk 5 ?_))
      (refine wpAnyE_one (i := 4) (o := ?_) ?_ (by kernel_rfl) (fun K hK => ?_); rotate_left; (focus ((simp only [List.getElem?_toArray, List.getElem?_cons_succ, List.getElem?_cons_zero]; exact rfl))); go_simp; go_at_call 112; refine ((lessR_any X1 X2 _ _ xa ya xc yc _ rfl rfl HLE.out (by omega) HX.out HY.out).mono fun _ _ h => h.newBR).mono ?_; rintro e w4 ⟨pa, pc, rfl, hp, hpn, hE4⟩; go_wp2_with fail; refine hK.out _ _ ?_ (fun hHeld => ?_); rotate_left; clear hK K; (try simp only [Act.put, List.setIfInBounds_toArray, List.set_cons_zero, List.set_cons_succ]))
      rotate_left
      · exact hE4.cell hS
      have HPN : Hid (0 < (toB 1000000 (X1 - X2)).length → ∀ z, pa = some z → z.block ≠ w.heap.size + 1 + 1) := fun hl z hz => by have := hpn z hz; omega
      have HP := Lib.hid hp
      have R4 := R.ext hE4
      have E4 := E.trans hE4
      have HM4 := Lib.hid (HM.out.ext hE4)
      obtain ⟨c0, c1, c2, f0, f1, f2⟩ := R4
      have hSf := hE4.cell hS
      clear hE4 hp hpn R E HX HY HM hS hHeld
      (refine ePu 6 ?_)
      clear hSf
      (refine wpAnyE_free (i := 7) (o := ?_) ?_ (by kernel_rfl) (by kernel_rfl) (fun K hK => ?_); rotate_left; (focus ((simp only [List.getElem?_toArray, List.getElem?_cons_succ, List.getElem?_cons_zero]; exact rfl))); go_simp; refine hK.out _ _ ?_; clear hK K; (try simp only [Act.put, List.setIfInBounds_toArray, List.set_cons_zero, List.set_cons_succ]))
      refine wpAnyE_done (by kernel_rfl) ?_ _
      go_wp2_with fail
      refine bodyPost_ret (v := .agg #[.bool s, .slice pa (toB 1000000 (X1 - X2)).length pc, .slice ma (toB 1000000 X3).length mc]) (by rw [results_cell1 rfl]; go_simp) rfl ?_
      refine ⟨_, rfl, ?_, extA⟩
      rw [HE.out]
      exact ⟨pa, pc, ma, mc, rfl, HP.out.three HPN.out, HM4.out.three HMN.out⟩
    · have HE : Hid (SN = (r, X2 - X1, X3)) := HSN.out.trans (by rw [if_neg hsr, if_neg hle])
      obtain ⟨z, hz, hz0⟩ : ∃ z, ordN X1 X2 = z ∧ ¬ 0 ≤ z := ⟨_, rfl, fun h => hle (ordN_ge.1 h)⟩
      have HLE : Hid (X1 ≤ X2) := by show _ ≤ _; omega
      clear HSN hsr hle
      go_wp2_with fail
      refine (orderR_any X1 X2 _ _ xa ya xc yc w3 rfl rfl (by omega) (by omega) HX.out HY.out).mono ?_
      rintro e w5 ⟨rfl, hE⟩
      rw [hz]
      have hz5 := hE.size
      replace R := R.ext hE
      replace E := E.trans hE
      replace HX := Lib.hid (HX.out.ext hE)
      replace HY := Lib.hid (HY.out.ext hE)
      replace HM := Lib.hid (HM.out.ext hE)
      replace a0 := hE.cell a0
      replace b0 := hE.cell b0
      clear hE hz
      go_wp2_with fail
      have hdr : Ext w5 w5.drew := extA
      have hS : w5.drew.cell? ⟨w.heap.size + 1, 0, none⟩ = some (.bool r) := hdr.cell b0
      replace R := R.ext hdr
      replace E := E.trans hdr
      replace HX := Lib.hid (HX.out.ext hdr)
      replace HY := Lib.hid (HY.out.ext hdr)
      replace HM := Lib.hid (HM.out.ext hdr)
      have hzd : w5.drew.heap.size = w5.heap.size := rfl
      refine wp_region_heldE 7 (fun w' => w'.cell? ⟨w.heap.size + 1, 0, none⟩ = some (.bool r)) (by kernel_rfl) ?_
      clear a0 b0 hdr
      generalize w5.drew = wd at R E HX HY HM hS hzd ⊢
      ((refine eTk 0 ?_); (refine eTk 1 ?_); (refine eTk 2 ?_); (refine eTk 3 ?_); (refine eTk 5 ?_))
      (refine wpAnyE_one (i := 4) (o := ?_) ?_ (by kernel_rfl) (fun K hK => ?_); rotate_left; (focus ((simp only [List.getElem?_toArray, List.getElem?_cons_succ, List.getElem?_cons_zero]; exact rfl))); go_simp; go_at_call 112; refine ((lessR_any X2 X1 _ _ ya xa yc xc _ rfl rfl HLE.out (by omega) HY.out HX.out).mono fun _ _ h => h.newBR).mono ?_; rintro e w4 ⟨pa, pc, rfl, hp, hpn, hE4⟩; go_wp2_with fail; refine hK.out _ _ ?_ (fun hHeld => ?_); rotate_left; clear hK K; (try simp only [Act.put, List.setIfInBounds_toArray, List.set_cons_zero, List.set_cons_succ]))
      rotate_left
      · exact hE4.cell hS
      have HPN : Hid (0 < (toB 1000000 (X2 - X1)).length → ∀ z, pa = some z → z.block ≠ w.heap.size + 1 + 1) := fun hl z hz => by have := hpn z hz; omega
      have HP := Lib.hid hp
      have R4 := R.ext hE4
      have E4 := E.trans hE4
      have HM4 := Lib.hid (HM.out.ext hE4)
      obtain ⟨c0, c1, c2, f0, f1, f2⟩ := R4
      have hSf := hE4.cell hS
      clear hE4 hp hpn R E HX HY HM hS hHeld
      (refine ePu 6 ?_)
      clear hSf
      (refine wpAnyE_free (i := 7) (o := ?_) ?_ (by kernel_rfl) (by kernel_rfl) (fun K hK => ?_); rotate_left; (focus ((simp only [List.getElem?_toArray, List.getElem?_cons_succ, List.getElem?_cons_zero]; exact rfl))); go_simp; refine hK.out _ _ ?_; clear hK K; (try simp only [Act.put, List.setIfInBounds_toArray, List.set_cons_zero, List.set_cons_succ]))
      refine wpAnyE_done (by kernel_rfl) ?_ _
      go_wp2_with fail
      refine bodyPost_ret (v := .agg #[.bool r, .slice pa (toB 1000000 (X2 - X1)).length pc, .slice ma (toB 1000000 X3).length mc]) (by rw [results_cell1 rfl]; go_simp) rfl ?_
      refine ⟨_, rfl, ?_, extA⟩
      rw [HE.out]
      exact ⟨pa, pc, ma, mc, rfl, HP.out.three HPN.out, HM4.out.three HMN.out⟩
end Go.Proofs.YtmndcdjcodfchaaGreatDoor
namespace Go.Proofs.YtmndcdjcodfchaaGreatDoor
open Go.RowKit
open Go.Lib (decDigits itoa)
theorem pow60 : (1000000 : Nat) ^ 10 = 10 ^ 60 := by decide
theorem numOf_lenR {a : Txt} (h : fracE a = 0) : LenR 10 (numOf a) := by
  obtain ⟨h1, h2, h3, h4, h5, h6, _⟩ := frac_parts h
  rw [intV_abs] at h2
  exact ⟨toB_len (by omega) 10 (by rw [pow60]; exact h2), toB_len (by omega) 10 (by rw [pow60]; exact h5)⟩
theorem both_two {a b : Txt} (h : bothE a b = 0) : fracE a = 0 ∧ fracE b = 0 := by
  unfold bothE at h
  by_cases ea : fracE a = 0
  · rw [if_pos ea] at h; exact ⟨ea, h⟩
  · rw [if_neg ea] at h; exact absurd h ea
theorem sumN_lenR {k l : Nat} {x y : Num} (hx : LenR k x) (hy : LenR l y) : LenR (k + l + 1) (sumN x y) := by
  obtain ⟨s, t, d⟩ := x
  obtain ⟨r, p, q⟩ := y
  have m1 := mul_lenR hx.1 hy.2
  have m2 := mul_lenR hy.1 hx.2
  have m3 := mul_lenR hx.2 hy.2
  dsimp only at m1 m2 m3
  have e : sumN (s, t, d) (r, p, q) = if s = r then (s, t * q + p * d, d * q) else if p * d ≤ t * q then (s, t * q - p * d, d * q) else (r, p * d - t * q, d * q) := rfl
  have hp : (1000000 : Nat) ^ (k + l + 1) = 1000000 * 1000000 ^ (k + l) := by rw [Nat.pow_succ, Nat.mul_comm]
  have lt : ∀ {z j : Nat}, (toB 1000000 z).length ≤ j → z < 1000000 ^ j := fun {z j} h => by
    have h1 := valB_lt (okB_toB (B := 1000000) (by omega) z)
    rw [valB_toB (by omega)] at h1
    exact Nat.lt_of_lt_of_le h1 (Nat.pow_le_pow_right (by omega) h)
  have n1 := lt m1
  have n2 := lt m2
  rw [Nat.add_comm l k] at n2
  have h3 : (toB 1000000 (d * q)).length ≤ k + l + 1 := by omega
  rw [e]
  split
  · exact ⟨toB_len (by omega) _ (by dsimp only; omega), h3⟩
  · split
    · exact ⟨toB_len (by omega) _ (by dsimp only; omega), h3⟩
    · exact ⟨toB_len (by omega) _ (by dsimp only; omega), h3⟩
theorem add_num {a b : Txt} (ea : fracE a = 0) (eb : fracE b = 0) : addS a b = resQ (valQ (sumN (numOf a) (numOf b))) ∧ (sumN (numOf a) (numOf b)).2.2 ≠ 0 := by
  obtain ⟨h1, h2⟩ := sumN_val (numOf_len ea).2 (numOf_len eb).2
  refine ⟨?_, h2⟩
  unfold addS ifOk
  rw [if_pos (bothE_zero ea eb), h1, numOf_val, numOf_val]
theorem cmp_num {a b : Txt} (ea : fracE a = 0) (eb : fracE b = 0) : (fracQ a - fracQ b).num.sign = signN (sumN (numOf a) (negN (numOf b))) := by
  obtain ⟨h1, h2⟩ := sumN_val (x := numOf a) (y := negN (numOf b)) (numOf_len ea).2 (numOf_len eb).2
  have h3 : valQ (sumN (numOf a) (negN (numOf b))) = fracQ a - fracQ b := by rw [h1, negN_val, numOf_val, numOf_val, Rat.sub_eq_add_neg]
  rw [← h3]
  unfold valQ signN
  exact num_sign h2
theorem mul_num {a b : Txt} (ea : fracE a = 0) (eb : fracE b = 0) : mulS a b = resQ (valQ (mulN (numOf a) (numOf b))) ∧ (mulN (numOf a) (numOf b)).2.2 ≠ 0 := by
  refine ⟨?_, Nat.mul_ne_zero (numOf_len ea).2 (numOf_len eb).2⟩
  unfold mulS ifOk
  rw [if_pos (bothE_zero ea eb), mulN_val, numOf_val, numOf_val]
theorem res_val (x : Num) : resQ (valQ x) = (madeT (numQ x.1 x.2.1 x.2.2), madeE (numQ x.1 x.2.1 x.2.2)) := rfl
theorem mulN_lenR {k l : Nat} {x y : Num} (hx : LenR k x) (hy : LenR l y) : LenR (k + l) (mulN x y) := ⟨mul_lenR hx.1 hy.1, mul_lenR hx.2 hy.2⟩
set_option maxHeartbeats 4000000 in
set_option maxRecDepth 100000 in
theorem rAdd_any (a b : Txt) (w : World) (ha : a.length ≤ 400) (hb : b.length ≤ 400) : Calls Tryz.prog 113 #[txt a, txt b] w (ResP (addS a b) w) := by
  have HB := Lib.hid (rBoth_any a b w ha hb)
  unfold ResP
  by_cases e0 : bothE a b = 0
  rotate_left
  · have HR : Hid (addS a b = ([], bothE a b)) := by show _ = _; unfold addS ifOk badR; rw [if_neg e0]
    have hne : (((bothE a b : Nat) : Int) != 0) = true := by rw [bne_iff_ne]; omega
    rw [HR.out]
    clear e0 HR
    generalize bothE a b = n at *
    go_enter Tryz.func113, Tryz.ntmps113
    go_wp2_with (go_at_call 131; with_reducible refine HB.out.mono ?_; rintro e w1 ⟨rfl, hE⟩)
    go_ret2
    exact ⟨rfl, hE⟩
  obtain ⟨ea, eb⟩ := both_two e0
  have HN1 := Lib.hid (fun W => numR_any a W ea ha)
  have HN2 := Lib.hid (fun W => numR_any b W eb hb)
  have HL1 := Lib.hid (numOf_lenR ea)
  have HL2 := Lib.hid (numOf_lenR eb)
  have HR := Lib.hid (add_num ea eb)
  rw [e0] at HB
  clear e0 ea eb
  rw [HR.out.1, res_val]
  generalize numOf a = NA at *
  generalize numOf b = NB at *
  have HLS := Lib.hid (sumN_lenR HL1.out HL2.out)
  obtain ⟨SN, hSN⟩ : ∃ SN, SN = sumN NA NB := ⟨_, rfl⟩
  rw [← hSN] at HR HLS ⊢
  have HSN := Lib.hid hSN
  clear hSN
  go_enter Tryz.func113, Tryz.ntmps113
  go_wp2_with (first
    | (go_at_call 131; with_reducible refine HB.out.mono ?_; rintro e w1 ⟨rfl, hE⟩)
    | (go_at_call 90; have hh := HN1; clear HN1; refine (hh.out _).mono ?_; clear hh; rintro e w2 ⟨v2, rfl, n2, e2⟩))
  go_wp2_with (go_at_call 90; refine (HN2.out _).mono ?_; rintro e w3 ⟨v3, rfl, n3, e3⟩)
  have E := (hE.trans e2).trans e3
  have n2 := n2.ext e3
  go_wp2_with (go_at_call 89; refine (rSum_any NA NB v2 v3 w3 n2 n3 (HL1.out.mono (by omega)) (HL2.out.mono (by omega))).mono ?_; rintro e w5 ⟨v5, rfl, n5, e5⟩)
  replace E := E.trans e5
  rw [← HSN.out] at n5
  go_wp2_with (go_at_call 132; refine (madeR_any SN.1 SN.2.1 SN.2.2 v5 w5 n5 HR.out.2 (Nat.le_trans HLS.out.1 (by omega)) (Nat.le_trans HLS.out.2 (by omega))).mono ?_; rintro e w6 ⟨rfl, e6⟩)
  go_ret2
  exact ⟨rfl, E.trans e6⟩
set_option maxHeartbeats 4000000 in
set_option maxRecDepth 100000 in
theorem rMul_any (a b : Txt) (w : World) (ha : a.length ≤ 400) (hb : b.length ≤ 400) : Calls Tryz.prog 114 #[txt a, txt b] w (ResP (mulS a b) w) := by
  have HB := Lib.hid (rBoth_any a b w ha hb)
  unfold ResP
  by_cases e0 : bothE a b = 0
  rotate_left
  · have HR : Hid (mulS a b = ([], bothE a b)) := by show _ = _; unfold mulS ifOk badR; rw [if_neg e0]
    have hne : (((bothE a b : Nat) : Int) != 0) = true := by rw [bne_iff_ne]; omega
    rw [HR.out]
    clear e0 HR
    generalize bothE a b = n at *
    go_enter Tryz.func114, Tryz.ntmps114
    go_wp2_with (go_at_call 131; with_reducible refine HB.out.mono ?_; rintro e w1 ⟨rfl, hE⟩)
    go_ret2
    exact ⟨rfl, hE⟩
  obtain ⟨ea, eb⟩ := both_two e0
  have HN1 := Lib.hid (fun W => numR_any a W ea ha)
  have HN2 := Lib.hid (fun W => numR_any b W eb hb)
  have HL1 := Lib.hid (numOf_lenR ea)
  have HL2 := Lib.hid (numOf_lenR eb)
  have HR := Lib.hid (mul_num ea eb)
  rw [e0] at HB
  clear e0 ea eb
  rw [HR.out.1, res_val]
  generalize numOf a = NA at *
  generalize numOf b = NB at *
  have HLS := Lib.hid (mulN_lenR HL1.out HL2.out)
  obtain ⟨SN, hSN⟩ : ∃ SN, SN = mulN NA NB := ⟨_, rfl⟩
  rw [← hSN] at HR HLS ⊢
  have HSN := Lib.hid hSN
  clear hSN
  go_enter Tryz.func114, Tryz.ntmps114
  go_wp2_with (first
    | (go_at_call 131; with_reducible refine HB.out.mono ?_; rintro e w1 ⟨rfl, hE⟩)
    | (go_at_call 90; have hh := HN1; clear HN1; refine (hh.out _).mono ?_; clear hh; rintro e w2 ⟨v2, rfl, n2, e2⟩))
  go_wp2_with (go_at_call 90; refine (HN2.out _).mono ?_; rintro e w3 ⟨v3, rfl, n3, e3⟩)
  have E := (hE.trans e2).trans e3
  have n2 := n2.ext e3
  go_wp2_with (go_at_call 133; refine (rProd_any NA NB v2 v3 w3 n2 n3 (HL1.out.mono (by omega)) (HL2.out.mono (by omega))).mono ?_; rintro e w5 ⟨v5, rfl, n5, e5⟩)
  replace E := E.trans e5
  rw [← HSN.out] at n5
  go_wp2_with (go_at_call 132; refine (madeR_any SN.1 SN.2.1 SN.2.2 v5 w5 n5 HR.out.2 (Nat.le_trans HLS.out.1 (by omega)) (Nat.le_trans HLS.out.2 (by omega))).mono ?_; rintro e w6 ⟨rfl, e6⟩)
  go_ret2
  exact ⟨rfl, E.trans e6⟩
set_option maxHeartbeats 4000000 in
set_option maxRecDepth 100000 in
theorem rOrder_any (a b : Txt) (w : World) (ea : fracE a = 0) (eb : fracE b = 0) (ha : a.length ≤ 400) (hb : b.length ≤ 400) :
    Calls Tryz.prog 56 #[txt a, txt b] w fun e w' => e = .returned (.int .i64 (fracQ a - fracQ b).num.sign) ∧ Ext w w' := by
  have HS := Lib.hid (cmp_num ea eb)
  have HN1 := Lib.hid (fun W => numR_any a W ea ha)
  have HN2 := Lib.hid (fun W => numR_any b W eb hb)
  have HL1 := Lib.hid (numOf_lenR ea)
  have HL2 := Lib.hid (numOf_lenR eb)
  rw [HS.out]
  clear HS ea eb
  generalize numOf a = NA at *
  generalize numOf b = NB at *
  obtain ⟨SN, hSN⟩ : ∃ SN, SN = sumN NA (negN NB) := ⟨_, rfl⟩
  rw [← hSN]
  have HSN := Lib.hid hSN
  clear hSN
  obtain ⟨s, t, d⟩ := SN
  by_cases h0 : t = 0
  · have hl : (((toB 1000000 t).length : Int) == 0) = true := by rw [lenR_zero h0]; rfl
    have HS : Hid (signN (s, t, d) = 0) := by show _ = _; unfold signN; rw [if_pos h0]
    clear h0
    go_enter Tryz.func56, Tryz.ntmps56
    go_wp2_with (go_at_call 90; have hh := HN1; clear HN1; refine (hh.out _).mono ?_; clear hh; rintro e w2 ⟨v2, rfl, n2, e2⟩)
    go_wp2_with (go_at_call 90; refine (HN2.out _).mono ?_; rintro e w3 ⟨v3, rfl, n3, e3⟩)
    have E := e2.trans e3
    have n2 := n2.ext e3
    go_wp2_with (go_at_call 91; refine (rTurn_any NB v3 w3 n3).mono ?_; rintro e w4 ⟨v4, rfl, n4, e4⟩)
    replace E := E.trans e4
    replace n2 := n2.ext e4
    go_wp2_with (go_at_call 89; refine (rSum_any NA (negN NB) v2 v4 w4 n2 n4 (HL1.out.mono (by omega)) (HL2.out.mono (by omega))).mono ?_; rintro e w5 ⟨v5, rfl, n5, e5⟩; rw [← HSN.out] at n5; obtain ⟨ta, tc, ba, bc, rfl, _, _⟩ := n5; dsimp only)
    replace E := E.trans e5
    go_ret
    exact ⟨ret_int HS.out.symm, extA⟩
  · have hl : (((toB 1000000 t).length : Int) == 0) = false := by rw [beq_eq_false_iff_ne]; have := lenR_pos h0; omega
    cases s
    · have HS : Hid (signN (false, t, d) = 1) := by show _ = _; unfold signN; rw [if_neg h0]; rfl
      clear h0
      go_enter Tryz.func56, Tryz.ntmps56
      go_wp2_with (go_at_call 90; have hh := HN1; clear HN1; refine (hh.out _).mono ?_; clear hh; rintro e w2 ⟨v2, rfl, n2, e2⟩)
      go_wp2_with (go_at_call 90; refine (HN2.out _).mono ?_; rintro e w3 ⟨v3, rfl, n3, e3⟩)
      have E := e2.trans e3
      have n2 := n2.ext e3
      go_wp2_with (go_at_call 91; refine (rTurn_any NB v3 w3 n3).mono ?_; rintro e w4 ⟨v4, rfl, n4, e4⟩)
      replace E := E.trans e4
      replace n2 := n2.ext e4
      go_wp2_with (go_at_call 89; refine (rSum_any NA (negN NB) v2 v4 w4 n2 n4 (HL1.out.mono (by omega)) (HL2.out.mono (by omega))).mono ?_; rintro e w5 ⟨v5, rfl, n5, e5⟩; rw [← HSN.out] at n5; obtain ⟨ta, tc, ba, bc, rfl, _, _⟩ := n5; dsimp only)
      replace E := E.trans e5
      go_ret
      exact ⟨ret_int HS.out.symm, extA⟩
    · have HS : Hid (signN (true, t, d) = -1) := by show _ = _; unfold signN; rw [if_neg h0]; rfl
      clear h0
      go_enter Tryz.func56, Tryz.ntmps56
      go_wp2_with (go_at_call 90; have hh := HN1; clear HN1; refine (hh.out _).mono ?_; clear hh; rintro e w2 ⟨v2, rfl, n2, e2⟩)
      go_wp2_with (go_at_call 90; refine (HN2.out _).mono ?_; rintro e w3 ⟨v3, rfl, n3, e3⟩)
      have E := e2.trans e3
      have n2 := n2.ext e3
      go_wp2_with (go_at_call 91; refine (rTurn_any NB v3 w3 n3).mono ?_; rintro e w4 ⟨v4, rfl, n4, e4⟩)
      replace E := E.trans e4
      replace n2 := n2.ext e4
      go_wp2_with (go_at_call 89; refine (rSum_any NA (negN NB) v2 v4 w4 n2 n4 (HL1.out.mono (by omega)) (HL2.out.mono (by omega))).mono ?_; rintro e w5 ⟨v5, rfl, n5, e5⟩; rw [← HSN.out] at n5; obtain ⟨ta, tc, ba, bc, rfl, _, _⟩ := n5; dsimp only)
      replace E := E.trans e5
      go_ret
      exact ⟨ret_int HS.out.symm, extA⟩
end Go.Proofs.YtmndcdjcodfchaaGreatDoor
namespace Go.Proofs.YtmndcdjcodfchaaGreatDoor
open Go.ChangeShapes Go.WideShapes Go.ChangeAt Go.RowKit
theorem own : ownKnob Tryz.prog.godebug = none := by kernel_rfl
theorem gTab : Tryz.prog.globalNamed "internal/strconv.uint64pow10" = some 1 := by kernel_rfl
theorem gTabT : (Tryz.prog.globals[1]?).map (·.type) = some 208 := by kernel_rfl
theorem cellsTab : Tryz.prog.cellsOf 208 = 20 := by kernel_rfl
theorem cellsU64 : Tryz.prog.cellsOf 139 = 1 := by kernel_rfl
theorem gRng : Tryz.prog.globalNamed "strconv.ErrRange" = some 5 := by kernel_rfl
theorem gRngT : (Tryz.prog.globals[5]?).map (·.type) = some 175 := by kernel_rfl
theorem gSyn : Tryz.prog.globalNamed "strconv.ErrSyntax" = some 4 := by kernel_rfl
theorem gSynT : (Tryz.prog.globals[4]?).map (·.type) = some 175 := by kernel_rfl
theorem starE : "*" ++ "errors.errorString" = "*errors.errorString" := by decide
theorem rowE (u : TypeId) (h : Tryz.prog.typeName? 3 u = some "*errors.errorString") : u = 243 :=
  typeName_ptr_named (nm := "errors.errorString") (by rw [starE]; kernel_rfl) (by kernel_rfl) (by decide) u (by rw [starE]; exact h)
theorem cellsErr : Tryz.prog.cellsOf 245 = 1 := by kernel_rfl
theorem cellsStr : Tryz.prog.cellsOf 9 = 1 := by kernel_rfl
theorem glob_of {W : World} (hs : W.ShapedOpen Tryz.prog) (hL : laidMetH Tryz.prog Rows.stockCostsRow.laid W) : Glob W := by
  have hP : laidMet Tryz.prog Rows.stockCostsRow.laid W := by
    rw [← MakeChecks.laidMetH_plain _ _ _ (by kernel_rfl)]; exact hL
  have hP2 := hP.tail.tail
  have hP4 := hP2.tail.tail
  have hP5 := hP4.tail
  obtain ⟨a0, _, h0, _⟩ := laid_sentinel hP4 gRng gRngT Tryz.underlying175 rowE Tryz.underlying243 Tryz.underlying245 rfl rfl Tryz.underlying9 cellsErr cellsStr
  obtain ⟨a1, _, h1, _⟩ := laid_sentinel hP5 gSyn gSynT Tryz.underlying175 rowE Tryz.underlying243 Tryz.underlying245 rfl rfl Tryz.underlying9 cellsErr cellsStr
  exact ⟨cell_of_shapedOpen_int (zero := #[.int .i64 0]) (t := 3) hs (of_decide_eq_true (by kernel_rfl)) (by kernel_rfl) rfl (by kernel_rfl) (by kernel_rfl) Tryz.underlying3,
    Lib.tabIs_of_head gTab gTabT Tryz.underlying208 Tryz.underlying139 cellsU64 cellsTab hP2, ⟨_, _, h1⟩, ⟨_, _, h0⟩⟩
def flatD : Nat → DataW Unit → List Value
  | _ + 1, .lit (.int k z) => [.int k z]
  | n + 1, .agg ds => ds.flatMap (flatD n)
  | _, _ => []
def putC (cs : List Value) : Obj → Obj
  | .cells _ t frozen => .cells ⟨cs⟩ t frozen
  | o => o
noncomputable def lowB : Nat := (World.holding Tryz.prog default ⟨#[], #[], []⟩).heap.size
def rngS : ByteArray := ⟨#[118, 97, 108, 117, 101, 32, 111, 117, 116, 32, 111, 102, 32, 114, 97, 110, 103, 101]⟩
def synS : ByteArray := ⟨#[105, 110, 118, 97, 108, 105, 100, 32, 115, 121, 110, 116, 97, 120]⟩
noncomputable def laidWorld (os : Os) : World :=
  let w0 := World.holding Tryz.prog os ⟨#[.cells #[.string rngS] 245, .cells #[.string synS] 245], #[], []⟩
  { w0 with heap := (((((((w0.heap.modify 6 (putC (flatD 3 Rows.laid_math_bits_deBruijn32tab))).modify 7 (putC (flatD 3 Rows.laid_math_bits_deBruijn64tab))).modify
      1 (putC (flatD 3 Rows.laid_internal_strconv_uint64pow10))).modify 3 (putC (flatD 3 Rows.laid_unicode_utf8_acceptRanges))).modify
      5 (putC [.iface 243 (.pointer (some ⟨lowB, 0, none⟩))])).modify 4 (putC [.iface 243 (.pointer (some ⟨lowB + 1, 0, none⟩))])).modify
      2 (putC (flatD 3 Rows.laid_unicode_utf8_first))) }
theorem laid_met (os : Os) (args : Array Value) : laidMet Tryz.prog Rows.stockCostsRow.laid ((laidWorld os).forCall (fun _ _ => 0) ⟨#[], args, []⟩).memory :=
  laidMet_of_run' 8 (by kernel_rfl) (by kernel_rfl)
end Go.Proofs.YtmndcdjcodfchaaGreatDoor
namespace Go.Proofs.YtmndcdjcodfchaaGreatDoor
open Go.RowKit
open Go.Lib (decDigits itoa)
theorem rPlusS_any (a b : Txt) (w : World) (ha : a.length ≤ 400) (hb : b.length ≤ 400) : Calls Tryz.prog 92 #[txt a, txt b] w fun e w' => e = .returned (txt (addS a b).1) ∧ Ext w w' := by
  have H := Lib.hid (rAdd_any a b w ha hb)
  generalize addS a b = r at *
  obtain ⟨r, re⟩ := r
  unfold ResP at H
  go_enter Tryz.func92, Tryz.ntmps92
  go_wp2_with (go_at_call 113; refine H.out.mono ?_; rintro e w1 ⟨rfl, hE⟩)
  go_ret
  exact ⟨rfl, hE⟩
theorem rTimesS_any (a b : Txt) (w : World) (ha : a.length ≤ 400) (hb : b.length ≤ 400) : Calls Tryz.prog 93 #[txt a, txt b] w fun e w' => e = .returned (txt (mulS a b).1) ∧ Ext w w' := by
  have H := Lib.hid (rMul_any a b w ha hb)
  generalize mulS a b = r at *
  obtain ⟨r, re⟩ := r
  unfold ResP at H
  go_enter Tryz.func93, Tryz.ntmps93
  go_wp2_with (go_at_call 114; refine H.out.mono ?_; rintro e w1 ⟨rfl, hE⟩)
  go_ret
  exact ⟨rfl, hE⟩
set_option maxHeartbeats 4000000 in
set_option maxRecDepth 100000 in
theorem rWorth_any (parts : List Int) (prices : List Txt) (pa : Option Addr) (pc : Nat) (qa : Option Addr) (qc : Nat) (w : World) (hp : ∀ x ∈ parts, 0 ≤ x ∧ x ≤ 1048576) (hq : PricesOk prices) (hl : parts.length ≤ prices.length) (h4 : parts.length ≤ 4) (hc : CellsI w pa parts) (hd : CellsT w qa prices) (hm : prices.length ≤ 20) :
    Calls Tryz.prog 57 #[.slice pa parts.length pc, .slice qa prices.length qc] w fun e w' => e = .returned (txt (fracT (worthQ parts prices parts.length))) ∧ Ext w w' := by
  have HC := Lib.hid hc
  have HD := Lib.hid hd
  have HP := Lib.hid hp
  have HQ := Lib.hid hq
  obtain ⟨n, hn⟩ : ∃ n, n = parts.length := ⟨_, rfl⟩
  obtain ⟨m, hmm⟩ : ∃ m, m = prices.length := ⟨_, rfl⟩
  rw [← hn, ← hmm] at hl ⊢
  rw [← hn] at h4
  rw [← hmm] at hm
  have HN := Lib.hid hn
  have HM := Lib.hid hmm
  obtain ⟨tt, htt⟩ : ∃ tt : Nat → Txt, tt = fun j => fracT (worthQ parts prices j) := ⟨_, rfl⟩
  have HTT : Hid (∀ j, fracT (worthQ parts prices j) = tt j) := fun j => by rw [htt]
  have HT0 : Hid (tt 0 = [48]) := by show _ = _; rw [← HTT.out]; exact worthT_zero parts prices
  have hen : fracT (worthQ parts prices n) = tt n := HTT.out n
  rw [hen]
  have HST : Hid (∀ j, j < n → ∃ t, mulS (itoa (parts.getD j 0)) (prices.getD j []) = (t, 0) ∧ t.length ≤ 400 ∧ addS (tt j) t = (tt (j + 1), 0) ∧ (tt j).length ≤ 400 ∧ (itoa (parts.getD j 0)).length ≤ 400 ∧ (prices.getD j []).length ≤ 400) := fun j hj => by
    obtain ⟨t, h1, h2, h3⟩ := worth_step hp hq (j := j) (by omega) (by omega) (by omega)
    have g := worth_good hp hq (j := j) (by omega) (by omega) (by omega)
    have hx := hp _ (getD_mem (d := 0) (show j < parts.length by omega))
    have hy := hq _ (getD_mem (d := []) (show j < prices.length by omega))
    rw [HTT.out, HTT.out] at h3
    rw [← HTT.out j]
    refine ⟨t, h1, h2, by rw [HTT.out j]; exact h3, frac_l400 g.ok, ?_, by omega⟩
    have := itoa_len (n := parts.getD j 0) (by omega) (by omega)
    omega
  clear hc hd hp hq hn hmm htt hen
  go_enter Tryz.func57, Tryz.ntmps57
  go_wp2
  go_loopw [5, 6] (fun s i wr => ∃ k : Nat, k ≤ n ∧ i = .int .i64 k ∧ s = txt (tt k) ∧ Ext w wr) (fun _ i _ => n - (intOf i).toNat)
  case atStart => exact ⟨0, Nat.zero_le _, rfl, by rw [HT0.out], Ext.refl _⟩
  case round =>
    obtain ⟨k, hk, rfl, rfl, he⟩ := hrel
    by_cases hlt : k < n
    · have hlt' : (k : Int) < (n : Int) := by omega
      obtain ⟨b1, o1, rfl, c1⟩ := HC.out.ext he k (by rw [← HN.out]; exact hlt)
      obtain ⟨b2, o2, rfl, c2⟩ := HD.out.ext he k (by rw [← HM.out]; omega)
      obtain ⟨t, ht, ht1, ht2, l1, l2, l3⟩ := HST.out k hlt
      have hxb := HP.out _ (getD_mem (d := 0) (show k < parts.length by rw [← HN.out]; exact hlt))
      generalize parts.getD k 0 = x at c1 ht hxb l2
      generalize prices.getD k [] = y at c2 ht l3
      have H1 := Lib.hid (fun W => wholeR_any x W (by omega) (by omega))
      have H2 := Lib.hid (fun W => rTimesS_any (itoa x) y W l2 l3)
      have H3 := Lib.hid (fun W => rPlusS_any (tt k) t W l1 ht1)
      rw [ht] at H2
      rw [ht2] at H3
      have hkm : (k : Int) < (m : Int) := by omega
      clear ht ht1 ht2 l1 l2 l3 hxb
      generalize tt k = s at H3 ⊢
      generalize hts : tt (k + 1) = s' at H3
      have HTS := Lib.hid hts
      clear hts
      generalize itoa x = xi at H1 H2
      go_wp2_with fail
      refine wp_region_heldE 99 (fun w' => w'.cell? ⟨b1, o1 + k, none⟩ = some (.int .i64 x) ∧ w'.cell? ⟨b2, o2 + k, none⟩ = some (txt y)) (by kernel_rfl) ?_
      have ED : Ext w wr.drew := he.drew
      have hS := And.intro ((Ext.refl wr).drew.cell c1) ((Ext.refl wr).drew.cell c2)
      clear c1 c2 he
      generalize wr.drew = w2 at hS ED ⊢
      obtain ⟨s1, s2⟩ := hS
      have z1 := cell_lt s1
      have z2 := cell_lt s2
      dsimp only at z1 z2
      have hS := And.intro s1 s2
      ((refine eTk 0 ?_); (refine eTk 1 ?_); (refine eTk 2 ?_); (refine eTk 3 ?_); (refine eTk 4 ?_); (refine eTk 6 ?_); (refine eTk 7 ?_); (refine eTk 8 ?_); (refine eTk 9 ?_))
      (refine wpAnyE_one (i := 5) (o := ?_) ?_ (by kernel_rfl) (fun K hK => ?_); rotate_left; (focus ((simp only [List.getElem?_toArray, List.getElem?_cons_succ, List.getElem?_cons_zero]; exact rfl))); go_simp; go_at_call 58; refine (H1.out _).mono ?_; rintro e w3 ⟨rfl, hE⟩; go_wp2_with fail; refine hK.out _ _ ?_ (fun hHeld => ?_); rotate_left; clear hK K; (try simp only [Act.put, List.setIfInBounds_toArray, List.set_cons_zero, List.set_cons_succ]))
      rotate_left
      · exact ⟨hE.cell s1, hE.cell s2⟩
      (refine wpAnyE_one (i := 10) (o := ?_) ?_ (by kernel_rfl) (fun K hK => ?_); rotate_left; (focus ((simp only [List.getElem?_toArray, List.getElem?_cons_succ, List.getElem?_cons_zero]; exact rfl))); go_simp; go_at_call 93; refine (H2.out _).mono ?_; rintro e w4 ⟨rfl, hE2⟩; go_wp2_with fail; refine hK.out _ _ ?_ (fun hHeld => ?_); rotate_left; clear hK K; (try simp only [Act.put, List.setIfInBounds_toArray, List.set_cons_zero, List.set_cons_succ]))
      rotate_left
      · exact ⟨hE2.cell (hE.cell s1), hE2.cell (hE.cell s2)⟩
      (refine wpAnyE_one (i := 11) (o := ?_) ?_ (by kernel_rfl) (fun K hK => ?_); rotate_left; (focus ((simp only [List.getElem?_toArray, List.getElem?_cons_succ, List.getElem?_cons_zero]; exact rfl))); go_simp; go_at_call 92; refine (H3.out _).mono ?_; rintro e w5 ⟨rfl, hE3⟩; go_wp2_with fail; refine hK.out _ _ ?_ (fun hHeld => ?_); rotate_left; clear hK K; (try simp only [Act.put, List.setIfInBounds_toArray, List.set_cons_zero, List.set_cons_succ]))
      rotate_left
      · exact ⟨hE3.cell (hE2.cell (hE.cell s1)), hE3.cell (hE2.cell (hE.cell s2))⟩
      ((refine ePu 12 ?_))
      refine wpAnyE_done (by kernel_rfl) ?_ _
      have E5 := ((ED.trans hE).trans hE2).trans hE3
      go_wp2
      exact ⟨⟨k + 1, by omega, by go_num, by rw [HTS.out], E5⟩, by simp [intOf]; omega⟩
    · have hke : k = n := by omega
      subst hke
      have hlt' : ¬ (k : Int) < (k : Int) := by omega
      generalize hts : tt k = s
      have HTS := Lib.hid hts
      clear hts
      go_wp2
      go_ret
      exact ⟨by rw [HTS.out]; rfl, he⟩
set_option maxHeartbeats 8000000 in
set_option maxRecDepth 100000 in
theorem rBound_any {pks : List Pk} {need : List Int} {prices : List Txt} {pa : Option Addr} {pc : Nat} {na : Option Addr} {nc : Nat} {qa : Option Addr} {qc : Nat} {w : World} (ht : TaskG w pks need pa pc na nc) (hd : CellsT w qa prices) (hm : prices.length ≤ 20) (hq : ∀ a ∈ prices, a.length ≤ 12) (h4 : need.length ≤ 4 ∨ 16 < need.length) :
    Calls Tryz.prog 18 #[taskV pks need pa pc na nc, .slice qa prices.length qc] w fun e w' => e = .returned (.tuple #[txt (boundS pks need prices).1, .int .i64 (boundS pks need prices).2]) ∧ Ext w w' := by
  have HCK := Lib.hid (fun w' (he : Ext w w') => rCheck_any (ht.ext he))
  unfold taskV at HCK ⊢
  have HP := Lib.hid ht.pk
  have HD := Lib.hid ht.nd
  have HT := Lib.hid hd
  have HQ := Lib.hid hq
  obtain ⟨N, hN⟩ : ∃ N, N = pks.length := ⟨_, rfl⟩
  obtain ⟨K, hK⟩ : ∃ K, K = need.length := ⟨_, rfl⟩
  obtain ⟨M, hM⟩ : ∃ M, M = prices.length := ⟨_, rfl⟩
  obtain ⟨c, hc⟩ : ∃ c, checkS pks need = c := ⟨_, rfl⟩
  obtain ⟨r, hr⟩ : ∃ r, (boundS pks need prices).1 = r := ⟨_, rfl⟩
  obtain ⟨q, hqq⟩ : ∃ q, (boundS pks need prices).2 = q := ⟨_, rfl⟩
  rw [hr, hqq, ← hN, ← hK, ← hM]
  rw [hc, ← hN, ← hK] at HCK
  rw [← hM] at hm
  have HB : Hid (∀ t : Txt × Int, boundS pks need prices = t → r = t.1 ∧ q = t.2) := fun t h => by rw [← hr, ← hqq, h]; exact ⟨rfl, rfl⟩
  have HN := Lib.hid hN
  have HK := Lib.hid hK
  have HM := Lib.hid hM
  have HC := Lib.hid hc
  have H4 : Hid (c = 0 → K ≤ 4) := fun h => by have := (right_of (hc.trans h)).k1; omega
  clear ht hd hq hN hK hM hc hr hqq h4
  have E0 : Ext w (w.alloc (.cells #[.slice pa N pc, .slice na K nc] 30)) := (Ext.refl _).alloc _
  have y1 : (w.alloc (.cells #[.slice pa N pc, .slice na K nc] 30)).cell? ⟨w.heap.size, 0, none⟩ = some (.slice pa N pc) := by go_simp
  have y2 : (w.alloc (.cells #[.slice pa N pc, .slice na K nc] 30)).cell? ⟨w.heap.size, 1, none⟩ = some (.slice na K nc) := by go_simp
  go_enter Tryz.func18, Tryz.ntmps18
  go_wp2_with fail
  refine (HCK.out _ E0).mono ?_
  rintro e w1 ⟨rfl, hE⟩
  have E1 := E0.trans hE
  have a1 := hE.cell y1
  have a2 := hE.cell y2
  have z1 := cell_lt a1
  dsimp only at z1
  clear hE E0 y1 y2 HCK
  by_cases h0 : c = 0
  rotate_left
  · have k1 : (c == 0) = false := by simp [h0]
    obtain ⟨rfl, hqc⟩ := HB.out _ (bound_a (by rw [HC.out]; exact h0))
    rw [HC.out] at hqc
    subst hqc
    go_wp2
    go_ret2
    exact ⟨rfl, E1⟩
  subst h0
  have h4 := H4.out rfl
  by_cases hMK : M = K
  rotate_left
  · have k1 : ((M : Int) == (K : Int)) = false := by simp; omega
    have k2 : ¬ (M : Int) = (K : Int) := by omega
    obtain ⟨rfl, rfl⟩ := HB.out _ (bound_b HC.out (by rw [← HM.out, ← HK.out]; exact hMK))
    go_wp2
    go_ret2
    exact ⟨rfl, E1⟩
  subst hMK
  have HMK : Hid (prices.length = need.length) := by show _ = _; rw [← HM.out, ← HK.out]
  have HR := Lib.hid (right_of HC.out)
  have hN64 : N ≤ 64 := by have := HR.out.pl; have := HN.out; omega
  go_wp2
  go_loopw [7] (fun t wr => ∃ k : Nat, k ≤ M ∧ t = .int .i64 k ∧ Hid (∀ j, j < k → prE (prices.getD j []) = 0) ∧ Ext w1 wr) (fun t _ => M - (intOf t).toNat)
  case atStart => exact ⟨0, Nat.zero_le _, rfl, fun j hj => absurd hj (Nat.not_lt_zero j), Ext.refl _⟩
  case round =>
    obtain ⟨k, hk, rfl, hz, he⟩ := hrel
    by_cases hlt : k < M
    · have hlt' : (k : Int) < (M : Int) := by omega
      have EK := E1.trans he
      obtain ⟨b2, o2, rfl, c2⟩ := HT.out.ext EK k (by rw [← HM.out]; exact hlt)
      have hyl := HQ.out _ (getD_mem (d := []) (show k < prices.length by rw [← HM.out]; exact hlt))
      have hbad : prE (prices.getD k []) ≠ 0 → r = [] ∧ q = prE (prices.getD k []) := fun h => by
        have h2 := price_hit hz.out (by rw [← HM.out]; exact hlt) rfl h
        have := HB.out _ (bound_c HC.out HMK.out (by rw [h2]; exact h))
        rw [h2] at this
        exact this
      have hnext : prE (prices.getD k []) = 0 → ∀ j, j < k + 1 → prE (prices.getD j []) = 0 := fun h j hj => by
        rcases Nat.lt_or_eq_of_le (Nat.le_of_lt_succ hj) with h2 | rfl
        · exact hz.out j h2
        · exact h
      generalize prices.getD k [] = y at c2 hyl hbad hnext
      have HBAD := Lib.hid hbad
      have HNX := Lib.hid hnext
      have z2 := cell_lt c2
      dsimp only at z2
      have H1 := Lib.hid (fun W => checkR_any y W (by omega))
      have H2 := Lib.hid (fun W (h : fracE y = 0) => rSignum_any y W h)
      have HSG : Hid (fracE y = 0 → ((fracQ y).num.sign < 0 ↔ negS y = true)) := fun h => by
        rw [signum_eq h]
        cases negS y
        · simp
          split <;> omega
        · simp
      clear hbad hnext hz hyl
      obtain ⟨f, hf⟩ : ∃ f, fracE y = f := ⟨_, rfl⟩
      obtain ⟨s, hs⟩ : ∃ s, negS y = s := ⟨_, rfl⟩
      rw [hf] at H1 H2 HSG
      rw [hs] at HSG
      generalize (fracQ y).num.sign = sg at H2 HSG
      have HF := Lib.hid (show _ ∧ _ from ⟨hf, hs⟩)
      clear hf hs
      go_wp2_with fail
      refine (H1.out _).mono ?_
      rintro e w2 ⟨rfl, hE⟩
      have E2 := he.trans hE
      have E2' := EK.trans hE
      have c2 := hE.cell c2
      have z2 := cell_lt c2
      dsimp only at z2
      by_cases hf0 : f = 0
      · subst hf0
        have HS3 := Lib.hid (HSG.out rfl)
        have H3 := Lib.hid (fun W => H2.out W rfl)
        clear H2 HSG
        cases s
        · have HG := Lib.hid (HNX.out (prE_c HF.out.1 HF.out.2))
          have hsg : ¬ sg < 0 := fun h => by have := HS3.out.1 h; cases this
          go_wp2_with fail
          refine (H3.out _).mono ?_
          rintro e w3 ⟨rfl, rfl⟩
          go_wp2
          exact ⟨⟨k + 1, by omega, by go_num, HG.out, E2⟩, by simp [intOf]; omega⟩
        · have hp2 := prE_b HF.out.1 HF.out.2
          obtain ⟨rfl, hqc⟩ := HBAD.out (by rw [hp2]; simp)
          rw [hp2] at hqc
          subst hqc
          clear hp2
          have hsg : sg < 0 := HS3.out.2 rfl
          go_wp2_with fail
          refine (H3.out _).mono ?_
          rintro e w3 ⟨rfl, rfl⟩
          go_wp2
          go_ret2
          exact ⟨rfl, E2'⟩
      · have hp2 := prE_a (a := y) (by rw [HF.out.1]; exact hf0)
        have k1 : ((f : Int) == 0) = false := by simp; omega
        have k2 : ¬ (f : Int) = 0 := by omega
        obtain ⟨rfl, hqc⟩ := HBAD.out (by rw [hp2, HF.out.1]; exact k2)
        rw [hp2, HF.out.1] at hqc
        subst hqc
        clear hp2
        go_wp2
        go_ret2
        exact ⟨rfl, E2'⟩
    · have hke : k = M := by omega
      subst hke
      have hlt' : ¬ (k : Int) < (k : Int) := by omega
      have HZ : Hid (priceE prices = 0) := by show _ = _; exact price_end (by rw [← HM.out]; exact hz.out)
      have HPO : Hid (PricesOk prices) := fun a ha => by
        obtain ⟨i, hi, e⟩ := List.mem_iff_getElem.1 ha
        have := hz.out i (by rw [HM.out]; exact hi)
        rw [getD_of hi, e] at this
        exact ⟨prE_ok this, HQ.out a ha⟩
      have a1 := he.cell a1
      have a2 := he.cell a2
      have z1 := cell_lt a1
      dsimp only at z1
      clear hz
      have E2 := E1.trans he
      clear he
      generalize wr = W at a1 a2 z1 E2 ⊢
      go_wp2
      go_loopw [9] (fun t wz => ∃ j : Nat, j ≤ N ∧ t = .int .i64 j ∧ Hid (∀ i, i < j → overB prices (pks.getD i pk0) = false) ∧ Ext W wz) (fun t _ => N - (intOf t).toNat)
      case atStart => exact ⟨0, Nat.zero_le _, rfl, fun j hj => absurd hj (Nat.not_lt_zero j), Ext.refl _⟩
      case round =>
        obtain ⟨j, hj, rfl, hz, he⟩ := hrel
        have EK := E2.trans he
        by_cases hlt : j < N
        · have hlt2 : (j : Int) < (N : Int) := by omega
          have hjp : j < pks.length := by rw [← HN.out]; exact hlt
          obtain ⟨b3, o3, v3, rfl, c1, ⟨ai, ci, rfl, cs, _, _⟩, c2, c3⟩ := (HP.out.ext EK) j hjp
          have hpl := HR.out.parts _ (getD_mem (d := pk0) hjp)
          have hpn := HR.out.num _ (getD_mem (d := pk0) hjp)
          have hpp := HR.out.price _ (getD_mem (d := pk0) hjp)
          have hbad : overB prices (pks.getD j pk0) = true → r = [] ∧ q = 15 := fun h => HB.out _ (bound_d HC.out HMK.out HZ.out hjp h)
          have hnext : overB prices (pks.getD j pk0) = false → ∀ i, i < j + 1 → overB prices (pks.getD i pk0) = false := fun h i hi => by
            rcases Nat.lt_or_eq_of_le (Nat.le_of_lt_succ hi) with h2 | rfl
            · exact hz.out i h2
            · exact h
          generalize pks.getD j pk0 = p at c1 c2 c3 cs hpl hpn hpp hbad hnext
          rw [← HK.out] at hpl
          have HX := Lib.hid (over_cmp (p := p) hpn hpp HPO.out (by rw [hpl, HM.out]; exact Nat.le_refl _) (by rw [hpl]; exact h4))
          have HW := Lib.hid (fun V (hV : Ext wr V) => rWorth_any p.parts prices ai ci qa qc V hpn HPO.out (by rw [hpl, HM.out]; exact Nat.le_refl _) (by rw [hpl]; exact h4) (cs.ext hV) (HT.out.ext (EK.trans hV)) (by rw [← HM.out]; exact hm))
          rw [hpl, ← HM.out] at HW
          rw [hpl] at HX c1
          have HBAD := Lib.hid hbad
          have HNX := Lib.hid hnext
          clear hbad hnext hz hpl hpn cs
          obtain ⟨z, x1, x2, x3, x4, x5, x6, x7⟩ := HX.out
          generalize fracT (worthQ p.parts prices k) = wt at HW x1 x2 x3 x4 x6
          have HCM := Lib.hid (fun V => rOrder_any wt (itoa p.price) V x4 x5 x6 x7)
          rw [x2] at HCM
          have HWH := Lib.hid (fun V => wholeR_any p.price V (by omega) (by omega))
          generalize itoa p.price = pt at HCM HWH
          have H3 := Lib.hid x3
          clear x1 x2 x3 x4 x5 x6 x7 HX hpp
          have a1' := he.cell a1
          have z2 := cell_lt a1'
          have z3 := cell_lt c1
          dsimp only at z2 z3
          go_wp2_with fail
          refine wp_region_heldE 99 (fun w' => w'.cell? ⟨w.heap.size, 0, none⟩ = some (.slice (some ⟨b3, o3, none⟩) N pc) ∧ w'.cell? ⟨b3, o3 + j * 3, none⟩ = some (.slice ai k ci) ∧ w'.cell? ⟨b3, o3 + j * 3 + 1, none⟩ = some (.int .i64 p.price)) (by kernel_rfl) ?_
          have ED : Ext wr wr.drew := (Ext.refl _).drew
          have hS := show _ ∧ _ ∧ _ from ⟨ED.cell a1', ED.cell c1, ED.cell c2⟩
          clear a1' c1 c2 c3 z2 z3
          generalize wr.drew = w3 at hS ED ⊢
          obtain ⟨s0, s1, s2⟩ := hS
          have z2 := cell_lt s0
          have z3 := cell_lt s1
          dsimp only at z2 z3
          have hS := show _ ∧ _ ∧ _ from ⟨s0, s1, s2⟩
          ((refine eTk 0 ?_); (refine eTk 1 ?_); (refine eTk 2 ?_); (refine eTk 3 ?_); (refine eTk 4 ?_); (refine eTk 5 ?_); (refine eTk 6 ?_); (refine eTk 8 ?_); (refine eTk 9 ?_); (refine eTk 10 ?_); (refine eTk 11 ?_); (refine eTk 12 ?_); (refine eTk 13 ?_))
          (refine wpAnyE_one (i := 7) (o := ?_) ?_ (by kernel_rfl) (fun K hK => ?_); rotate_left; (focus ((simp only [List.getElem?_toArray, List.getElem?_cons_succ, List.getElem?_cons_zero]; exact rfl))); go_simp; go_at_call 57; refine (HW.out _ ED).mono ?_; rintro e w4 ⟨rfl, hE⟩; go_wp2_with fail; refine hK.out _ _ ?_ (fun hHeld => ?_); rotate_left; clear hK K; (try simp only [Act.put, List.setIfInBounds_toArray, List.set_cons_zero, List.set_cons_succ]))
          rotate_left
          · exact ⟨hE.cell s0, hE.cell s1, hE.cell s2⟩
          (refine wpAnyE_one (i := 14) (o := ?_) ?_ (by kernel_rfl) (fun K hK => ?_); rotate_left; (focus ((simp only [List.getElem?_toArray, List.getElem?_cons_succ, List.getElem?_cons_zero]; exact rfl))); go_simp; go_at_call 58; refine (HWH.out _).mono ?_; rintro e w5 ⟨rfl, hE2⟩; go_wp2_with fail; refine hK.out _ _ ?_ (fun hHeld => ?_); rotate_left; clear hK K; (try simp only [Act.put, List.setIfInBounds_toArray, List.set_cons_zero, List.set_cons_succ]))
          rotate_left
          · exact ⟨hE2.cell (hE.cell s0), hE2.cell (hE.cell s1), hE2.cell (hE.cell s2)⟩
          (refine wpAnyE_one (i := 15) (o := ?_) ?_ (by kernel_rfl) (fun K hK => ?_); rotate_left; (focus ((simp only [List.getElem?_toArray, List.getElem?_cons_succ, List.getElem?_cons_zero]; exact rfl))); go_simp; go_at_call 56; refine (HCM.out _).mono ?_; rintro e w6 ⟨rfl, hE3⟩; go_wp2_with fail; refine hK.out _ _ ?_ (fun hHeld => ?_); rotate_left; clear hK K; (try simp only [Act.put, List.setIfInBounds_toArray, List.set_cons_zero, List.set_cons_succ]))
          rotate_left
          · exact ⟨hE3.cell (hE2.cell (hE.cell s0)), hE3.cell (hE2.cell (hE.cell s1)), hE3.cell (hE2.cell (hE.cell s2))⟩
          ((refine ePu 16 ?_))
          refine wpAnyE_done (by kernel_rfl) ?_ _
          have E8 := ((ED.trans hE).trans hE2).trans hE3
          by_cases hz0 : 0 < z
          · obtain ⟨rfl, rfl⟩ := HBAD.out (by rw [H3.out]; exact decide_eq_true hz0)
            go_wp2
            go_ret2
            exact ⟨rfl, EK.trans E8⟩
          · have HG := Lib.hid (HNX.out (by rw [H3.out]; exact decide_eq_false hz0))
            go_wp2
            exact ⟨⟨j + 1, by omega, by go_num, HG.out, he.trans E8⟩, by simp [intOf]; omega⟩
        · have hje : j = N := by omega
          subst hje
          have hlt2 : ¬ (j : Int) < (j : Int) := by omega
          obtain ⟨hr2, hq2⟩ := HB.out _ (bound_e HC.out HMK.out HZ.out (by rw [← HN.out]; exact hz.out))
          have a1' := he.cell a1
          have a2' := he.cell a2
          have z2 := cell_lt a2'
          dsimp only at z2
          have HW := Lib.hid (rWorth_any need prices na nc qa qc wr HR.out.nd HPO.out (by rw [HMK.out]; exact Nat.le_refl _) (by rw [← HK.out]; exact h4) (HD.out.ext EK) (HT.out.ext EK) (by rw [← HM.out]; exact hm))
          dsimp only at hr2 hq2
          rw [← hr2, ← HM.out, ← HK.out] at HW
          subst hq2
          clear hr2 hz
          go_wp2_with fail
          refine HW.out.mono ?_
          rintro e w4 ⟨rfl, hE⟩
          go_wp2
          go_ret2
          exact ⟨rfl, EK.trans hE⟩
end Go.Proofs.YtmndcdjcodfchaaGreatDoor
namespace Go.Proofs.YtmndcdjcodfchaaGreatDoor
open Go.RowKit
def tinyB (a : Txt) : Bool := decide (a.length ≤ 12)
def shortB (l : List Txt) : Bool := l.all tinyB && decide (l.length ≤ 20)
theorem short_hit {l : List Txt} {k : Nat} (hk : k < l.length) (h : 12 < (l.getD k []).length) : shortB l = false := by
  have : l.all tinyB = false := by
    cases ha : l.all tinyB
    · rfl
    · rw [List.all_eq_true] at ha
      have := ha _ (getD_mem (d := []) hk)
      unfold tinyB at this
      simp only [decide_eq_true_eq] at this
      omega
  unfold shortB
  rw [this, Bool.false_and]
theorem short_end {l : List Txt} (h : ∀ k, k < l.length → ¬ 12 < (l.getD k []).length) : shortB l = decide (l.length ≤ 20) := by
  have : l.all tinyB = true := by
    rw [List.all_eq_true]
    intro x hx
    obtain ⟨i, hi, e⟩ := List.mem_iff_getElem.1 hx
    have := h i hi
    rw [getD_of hi, e] at this
    unfold tinyB
    exact decide_eq_true (by omega)
  unfold shortB
  rw [this, Bool.true_and]
theorem shortB_of {l : List Txt} (h : shortB l = true) : l.length ≤ 20 ∧ ∀ a ∈ l, a.length ≤ 12 := by
  unfold shortB at h
  rw [Bool.and_eq_true, List.all_eq_true] at h
  exact ⟨of_decide_eq_true h.2, fun a ha => of_decide_eq_true (h.1 a ha)⟩
set_option maxHeartbeats 4000000 in
theorem rShortL_any (l : List Txt) (a : Option Addr) (cap : Nat) (w : World) (hc : CellsT w a l) (hm : l.length ≤ 9223372036854775807) :
    Calls Tryz.prog 16 #[.slice a l.length cap] w fun e w' => e = .returned (.bool (shortB l)) ∧ Ext w w' := by
  have HC := Lib.hid hc
  obtain ⟨r, hr⟩ : ∃ r, shortB l = r := ⟨_, rfl⟩
  obtain ⟨n, hn⟩ : ∃ n, n = l.length := ⟨_, rfl⟩
  rw [hr, ← hn]
  rw [← hn] at hm
  have HHIT : Hid (∀ k, k < n → 12 < (l.getD k []).length → r = false) := fun k hk h => by rw [← hr]; exact short_hit (by omega) h
  have HEND : Hid ((∀ k, k < n → ¬ 12 < (l.getD k []).length) → r = decide (n ≤ 20)) := fun h => by rw [← hr, hn]; exact short_end (by rw [← hn]; exact h)
  have HN := Lib.hid hn
  clear hc hr hn
  go_enter Tryz.func16, Tryz.ntmps16
  go_wp2
  go_loopw [3] (fun i wr => ∃ k : Nat, k ≤ n ∧ i = .int .i64 k ∧ Hid (∀ j, j < k → ¬ 12 < (l.getD j []).length) ∧ Ext w wr) (fun i _ => n - (intOf i).toNat)
  case atStart => exact ⟨0, Nat.zero_le _, rfl, fun j hj => absurd hj (Nat.not_lt_zero j), Ext.refl _⟩
  case round =>
    obtain ⟨k, hk, rfl, hz, he⟩ := hrel
    by_cases hlt : k < n
    · have hlt' : (k : Int) < (n : Int) := by omega
      obtain ⟨b1, o1, rfl, c1⟩ := HC.out.ext he k (by rw [← HN.out]; exact hlt)
      have hh := HHIT.out k hlt
      have hnx : ¬ 12 < (l.getD k []).length → ∀ j, j < k + 1 → ¬ 12 < (l.getD j []).length := fun h j hj => by
        rcases Nat.lt_or_eq_of_le (Nat.le_of_lt_succ hj) with h2 | rfl
        · exact hz.out j h2
        · exact h
      generalize l.getD k [] = y at c1 hh hnx
      have z1 := cell_lt c1
      dsimp only at z1
      clear hz
      by_cases h1 : 12 < y.length
      · obtain rfl := hh h1
        have h1' : (12 : Int) < (y.length : Int) := by omega
        clear hh hnx
        go_wp2
        go_ret
        exact ⟨rfl, he⟩
      · have HG := Lib.hid (hnx h1)
        have h1' : ¬ (12 : Int) < (y.length : Int) := by omega
        clear hh hnx
        go_wp2
        exact ⟨⟨k + 1, by omega, by go_num, HG.out, he⟩, by simp [intOf]; omega⟩
    · have hke : k = n := by omega
      subst hke
      have hlt' : ¬ (k : Int) < (k : Int) := by omega
      have hr := HEND.out hz.out
      clear hz
      by_cases h1 : k ≤ 20
      · have h1' : (k : Int) ≤ 20 := by omega
        rw [decide_eq_true h1] at hr
        subst hr
        go_wp2
        go_ret
        exact ⟨rfl, he⟩
      · have h1' : ¬ (k : Int) ≤ 20 := by omega
        rw [decide_eq_false h1] at hr
        subst hr
        go_wp2
        go_ret
        exact ⟨rfl, he⟩
set_option maxHeartbeats 8000000 in
set_option maxRecDepth 100000 in
theorem lawBounds_any {pks : List Pk} {need : List Int} {prices : List Txt} {pa : Option Addr} {pc : Nat} {na : Option Addr} {nc : Nat} {qa : Option Addr} {qc : Nat} {w : World} (ht : TaskG w pks need pa pc na nc) (hd : CellsT w qa prices) (hdm : prices.length ≤ 9223372036854775807) (hGl : Glob w) :
    Calls Tryz.prog 4 #[taskV pks need pa pc na nc, .slice qa prices.length qc] w fun e w' => e = .returned (.bool true) ∧ Ext w w' := by
  have HSM := Lib.hid (fun W (hW : Ext w W) => small_any (ht.ext hW))
  have HSH := Lib.hid (fun W (hW : Ext w W) => rShortL_any prices qa qc W (hd.ext hW) hdm)
  have HAW := Lib.hid (fun W (hW : Ext w W) => awake_any W (hGl.ext hW))
  have HOF := Lib.hid (fun W (hW : Ext w W) h => Of_any (ht.ext hW) h)
  have HB1 := Lib.hid (fun W (hW : Ext w W) hs h4 => Bound_any (qc := qc) (ht.ext hW) (hGl.ext hW) (hd.ext hW) (shortB_of hs).1 (shortB_of hs).2 h4)
  have HB2 := Lib.hid (fun W (hW : Ext w W) pa' pc' na' nc' (h : TaskG W pks need pa' pc' na' nc') hs h4 => rBound_any (qc := qc) h (hd.ext hW) (shortB_of hs).1 (shortB_of hs).2 h4)
  have hsm : smallB pks need = true → pks.length ≤ 100 ∧ need.length ≤ 100 := fun h => smallB_of h
  unfold TaskP at HOF
  unfold taskV at HSM HOF HB1 HB2 ⊢
  obtain ⟨N, hN⟩ : ∃ N, N = pks.length := ⟨_, rfl⟩
  obtain ⟨K, hK⟩ : ∃ K, K = need.length := ⟨_, rfl⟩
  obtain ⟨M, hM⟩ : ∃ M, M = prices.length := ⟨_, rfl⟩
  rw [← hN, ← hK] at HSM HOF
  rw [← hN, ← hK, ← hM] at HB1 HB2
  rw [← hN, ← hK, ← hM]
  rw [← hM] at HSH
  rw [← hN, ← hK] at hsm
  generalize smallB pks need = sm at HSM hsm
  generalize shortB prices = sh at HSH HB1 HB2
  generalize (boundS pks need prices).1 = rt at HB1 HB2
  generalize (boundS pks need prices).2 = re at HB1 HB2
  clear ht hd hGl hN hK hM hdm
  have E0 : Ext w (w.alloc (.cells #[.slice pa N pc, .slice na K nc] 25)) := (Ext.refl _).alloc _
  have y1 : (w.alloc (.cells #[.slice pa N pc, .slice na K nc] 25)).cell? ⟨w.heap.size, 0, none⟩ = some (.slice pa N pc) := by go_simp
  have y2 : (w.alloc (.cells #[.slice pa N pc, .slice na K nc] 25)).cell? ⟨w.heap.size, 1, none⟩ = some (.slice na K nc) := by go_simp
  go_enter Tryz.func4, Tryz.ntmps4
  go_wp2_with fail
  refine (HSM.out _ E0).mono ?_
  rintro e w1 ⟨rfl, hE⟩
  have E1 := E0.trans hE
  have y1 := hE.cell y1
  have y2 := hE.cell y2
  have z := cell_lt y1
  dsimp only at z
  clear hE E0 HSM
  cases sm
  case false =>
    clear hsm
    go_wp2_with fail
    refine (HAW.out _ E1).mono ?_
    rintro e w2 ⟨rfl, hE⟩
    go_wp2
    go_ret
    exact ⟨rfl, E1.trans hE⟩
  obtain ⟨hN1, hK1⟩ := hsm rfl
  clear hsm
  go_wp2_with fail
  refine (HSH.out _ E1).mono ?_
  rintro e w2 ⟨rfl, hE⟩
  have E2 := E1.trans hE
  have y1 := hE.cell y1
  have y2 := hE.cell y2
  have z := cell_lt y1
  dsimp only at z
  clear hE E1 HSH
  cases sh
  case false =>
    go_wp2_with fail
    refine (HAW.out _ E2).mono ?_
    rintro e w3 ⟨rfl, hE⟩
    go_wp2
    go_ret
    exact ⟨rfl, E2.trans hE⟩
  by_cases h5 : 4 < K ∧ K ≤ 16
  · have h5a : (4 : Int) < (K : Int) := by omega
    have h5b : (K : Int) ≤ 16 := by omega
    go_wp2_with fail
    refine (HAW.out _ E2).mono ?_
    rintro e w3 ⟨rfl, hE⟩
    go_wp2
    go_ret
    exact ⟨rfl, E2.trans hE⟩
  have h4 : K ≤ 4 ∨ 16 < K := by omega
  have H1 := Lib.hid (HB1.out _ E2 rfl h4)
  clear HB1
  by_cases h4a : K ≤ 4
  · have h4b : ¬ (4 : Int) < (K : Int) := by omega
    go_wp2_with fail
    refine H1.out.mono ?_
    rintro e w3 ⟨rfl, hE⟩
    have E3 := E2.trans hE
    have y1 := hE.cell y1
    have y2 := hE.cell y2
    have z := cell_lt y1
    dsimp only at z
    clear hE E2 H1
    go_wp2_with fail
    refine (HOF.out _ E3 hN1).mono ?_
    rintro e w4 ⟨pa1, pc1, na1, nc1, rfl, hT, hE⟩
    have E4 := E3.trans hE
    have HX := Lib.hid (HB2.out _ E4 _ _ _ _ hT trivial h4)
    clear hE E3 hT HB2 HOF
    go_wp2_with fail
    refine HX.out.mono ?_
    rintro e w5 ⟨rfl, hE⟩
    have E5 := E4.trans hE
    clear hE E4 HX
    go_wp2_with fail
    refine (HAW.out _ E5).mono ?_
    rintro e w6 ⟨rfl, hE⟩
    go_wp2
    go_ret
    exact ⟨rfl, E5.trans hE⟩
  · have h4b : (4 : Int) < (K : Int) := by omega
    have h4c : ¬ (K : Int) ≤ 16 := by omega
    go_wp2_with fail
    refine H1.out.mono ?_
    rintro e w3 ⟨rfl, hE⟩
    have E3 := E2.trans hE
    have y1 := hE.cell y1
    have y2 := hE.cell y2
    have z := cell_lt y1
    dsimp only at z
    clear hE E2 H1
    go_wp2_with fail
    refine (HOF.out _ E3 hN1).mono ?_
    rintro e w4 ⟨pa1, pc1, na1, nc1, rfl, hT, hE⟩
    have E4 := E3.trans hE
    have HX := Lib.hid (HB2.out _ E4 _ _ _ _ hT trivial h4)
    clear hE E3 hT HB2 HOF
    go_wp2_with fail
    refine HX.out.mono ?_
    rintro e w5 ⟨rfl, hE⟩
    have E5 := E4.trans hE
    clear hE E4 HX
    go_wp2_with fail
    refine (HAW.out _ E5).mono ?_
    rintro e w6 ⟨rfl, hE⟩
    go_wp2
    go_ret
    exact ⟨rfl, E5.trans hE⟩
end Go.Proofs.YtmndcdjcodfchaaGreatDoor
