/- Steps of the proof: ELRig, ELEnc, ELNar. No conditions. -/
import Derived.Test.YtdejgaiocjfhjaaGreatDoorZNB1
import Derived.Test.YtdejgaiocjfhjaaGreatDoorZNB2
import Derived.Test.YtdejgaiocjfhjaaGreatDoorZNB3
import Derived.Test.YtdejgaiocjfhjaaGreatDoorZNB4
import Derived.Test.YtdejgaiocjfhjaaGreatDoorZNB5
import Derived.Test.YtdejgaiocjfhjaaGreatDoorZNB6
import Derived.Test.YtdejgaiocjfhjaaGreatDoorZNB7
import Derived.Test.YtdejgaiocjfhjaaGreatDoorZNB8
import Derived.Test.YtdejgaiocjfhjaaGreatDoorZNB9
import Derived.Test.YtdejgaiocjfhjaaGreatDoorZNB10
import Derived.Test.YtdejgaiocjfhjaaGreatDoorZNB11
namespace Go.Proofs.YtdejgaiocjfhjaaGreatDoor
open Go.RowKit
open Go.Lib (decDigits itoa)
def okE (a : Enc) : Bool := shortE a && (encE a == 0)
theorem okE_short {a : Enc} (h : okE a = true) : ShortR a := by
  unfold okE shortE at h
  simp only [Bool.and_eq_true, decide_eq_true_eq, beq_iff_eq] at h
  exact ⟨h.2, h.1.1, h.1.2⟩
theorem all_dropE {l : List Enc} {k : Nat} (h : k < l.length) : (l.drop k).all okE = (okE (l.getD k ([], [])) && (l.drop (k + 1)).all okE) := by
  rw [List.drop_eq_getElem_cons h, getD_enc h, List.all_cons]
set_option maxHeartbeats 4000000 in
set_option maxRecDepth 100000 in
theorem lawRight_any (l : List Enc) (a : Option Addr) (cap : Nat) (w : World) (hc : CellsE w a l) (hm : l.length ≤ 1000) :
    Calls Tryz.prog 36 #[.slice a l.length cap] w fun e w' => e = .returned (.bool (l.all okE)) ∧ Ext w w' := by
  have HC := Lib.hid hc
  obtain ⟨S, hS⟩ : ∃ S, S = l.all okE := ⟨_, rfl⟩
  have HS := Lib.hid hS
  rw [← hS]
  clear hc hS
  go_enter Tryz.func36, Tryz.ntmps36
  go_wp2
  go_loopw [7] (fun i wr => ∃ k : Nat, k ≤ l.length ∧ i = .int .i64 k ∧ Hid (S = (l.drop k).all okE) ∧ Ext w wr) (fun i _ => l.length - (intOf i).toNat)
  case atStart => exact ⟨0, by omega, rfl, HS.out, Ext.refl _⟩
  case round =>
    obtain ⟨k, hk, rfl, HE, he⟩ := hrel
    by_cases hlt : k < l.length
    · have hki : (k : Int) < (l.length : Int) := by omega
      have hkw : IntKind.i64.wrap ((k : Int) + 1) = (k : Int) + 1 := by rw [IntKind.wrap_i64]; omega
      obtain ⟨b, off, ha, hc1, hc2⟩ := HC.out.ext he k hlt
      subst ha
      have hst := HE.out.trans (all_dropE hlt)
      generalize l.getD k ([], []) = x at hc1 hc2 hst
      have H1 := Lib.hid (fun W => short2_any x W)
      have H2 : Hid (shortE x = true → ∀ W, Calls Tryz.prog 45 #[encV x] W fun e w' => e = .returned (.int .i64 (encE x : Nat)) ∧ Ext W w') := fun h W => rCheck2_any x W (by
        unfold shortE at h
        simp only [Bool.and_eq_true, decide_eq_true_eq] at h
        exact ⟨by omega, by omega⟩)
      unfold okE at hst
      generalize shortE x = sh at *
      generalize encE x = n at *
      obtain ⟨x1, x2⟩ := x
      dsimp only [encV] at hc1 hc2 H1 H2
      have P := encAt_new wr wr.heap.size rfl x1 x2 24
      have EA : Ext wr (wr.alloc (.cells #[txt x1, txt x2] 24)) := extA
      have E := he.trans EA
      clear EA HE
      cases sh
      · have HR : Hid (S = false) := by show _ = _; rw [hst]; rfl
        clear hst
        go_wp2_with fail
        refine (H1.out _).mono ?_
        rintro e w1 ⟨rfl, hE⟩
        replace E := E.trans hE
        go_wp2_with fail
        go_ret
        exact ⟨by rw [HR.out]; rfl, E⟩
      · have H2b : Hid (∀ W, Calls Tryz.prog 45 #[.agg #[txt x1, txt x2]] W fun e w' => e = .returned (.int .i64 (n : Nat)) ∧ Ext W w') := H2.out rfl
        clear H2
        go_wp2_with fail
        generalize (wr.alloc (.cells #[txt x1, txt x2] 24)) = wb at P E ⊢
        obtain ⟨nb, hnb⟩ : ∃ nb, nb = wr.heap.size := ⟨_, rfl⟩
        rw [← hnb] at P ⊢
        clear hnb hc1 hc2
        refine (H1.out _).mono ?_
        clear H1
        rintro e w1 ⟨rfl, hE⟩
        replace E := E.trans hE
        obtain ⟨p0, p1, _, _⟩ := P.ext hE
        clear hE P
        go_wp2_with fail
        refine (H2b.out _).mono ?_
        clear H2b p0 p1
        rintro e w2 ⟨rfl, hE⟩
        replace E := E.trans hE
        clear hE
        by_cases hn : n = 0
        · subst hn
          have HE2 : Hid (S = (l.drop (k + 1)).all okE) := by show _ = _; rw [hst]; rfl
          have hne : (((0 : Nat) : Int) != 0) = false := rfl
          clear hst
          go_wp2
          refine ⟨⟨k + 1, by omega, by go_num, HE2, E⟩, by simp [intOf]; omega⟩
        · have hne : (((n : Nat) : Int) != 0) = true := by rw [bne_iff_ne]; omega
          have hb : (n == 0) = false := by rw [beq_eq_false_iff_ne]; exact hn
          have HR : Hid (S = false) := by show _ = _; rw [hst, hb]; rfl
          clear hst hb
          go_wp2
          go_ret
          exact ⟨by rw [HR.out]; rfl, E⟩
    · have hki : ¬ (k : Int) < (l.length : Int) := by omega
      have HR : Hid (S = true) := by show _ = _; rw [HE.out, List.drop_eq_nil_of_le (by omega)]; rfl
      clear HE
      go_wp2
      go_ret
      exact ⟨by rw [HR.out]; rfl, he⟩
theorem right_two (a b : Enc) (W : World) (t : TypeId) (n : Nat) (v : World) (hn : n = v.heap.size) (hW : W = v.alloc (.cells #[txt a.1, txt a.2, txt b.1, txt b.2] t)) :
    Calls Tryz.prog 36 #[.slice (some ⟨n, 0, none⟩) 2 2] W fun e w' => e = .returned (.bool (okE a && okE b)) ∧ Ext W w' := by
  subst hn
  have k := lawRight_any [a, b] (some ⟨v.heap.size, 0, none⟩) 2 W (by rw [hW]; exact pair_enc v a b _) (by simp)
  have e : [a, b].all okE = (okE a && okE b) := by simp
  rw [e] at k
  exact k
theorem rPlus_any (a b : Txt) (w : World) (ha : a.length ≤ 400) (hb : b.length ≤ 400) : Calls Tryz.prog 90 #[txt a, txt b] w fun e w' => e = .returned (txt (addS a b).1) ∧ Ext w w' := by
  have H := Lib.hid (rAdd_any a b w ha hb)
  generalize addS a b = r at *
  obtain ⟨r, re⟩ := r
  unfold ResP at H
  go_enter Tryz.func90, Tryz.ntmps90
  go_wp2_with (go_at_call 81; refine H.out.mono ?_; rintro e w1 ⟨rfl, hE⟩)
  go_ret
  exact ⟨rfl, hE⟩
theorem rMinus_any (a b : Txt) (w : World) (ha : a.length ≤ 400) (hb : b.length ≤ 400) : Calls Tryz.prog 91 #[txt a, txt b] w fun e w' => e = .returned (txt (subS a b).1) ∧ Ext w w' := by
  have H := Lib.hid (rSub_any a b w ha hb)
  generalize subS a b = r at *
  obtain ⟨r, re⟩ := r
  unfold ResP at H
  go_enter Tryz.func91, Tryz.ntmps91
  go_wp2_with (go_at_call 78; refine H.out.mono ?_; rintro e w1 ⟨rfl, hE⟩)
  go_ret
  exact ⟨rfl, hE⟩
theorem rTimes_any (a b : Txt) (w : World) (ha : a.length ≤ 400) (hb : b.length ≤ 400) : Calls Tryz.prog 61 #[txt a, txt b] w fun e w' => e = .returned (txt (mulS a b).1) ∧ Ext w w' := by
  have H := Lib.hid (rMul_any a b w ha hb)
  generalize mulS a b = r at *
  obtain ⟨r, re⟩ := r
  unfold ResP at H
  go_enter Tryz.func61, Tryz.ntmps61
  go_wp2_with (go_at_call 75; refine H.out.mono ?_; rintro e w1 ⟨rfl, hE⟩)
  go_ret
  exact ⟨rfl, hE⟩
theorem over_good {k : Nat} (hk : k ≤ 255) : makeR (itoa k) (itoa 255) = (fracT ((k : Rat) / ((255 : Nat) : Rat)), 0) ∧ Good 4 (fracT ((k : Rat) / ((255 : Nat) : Rat))) ((k : Rat) / ((255 : Nat) : Rat)) := by
  have h1 := int_good (n := (k : Int)) (K := 3) (by omega) (by omega) (by simp; omega)
  have h2 := int_good (n := 255) (K := 3) (by omega) (by omega) (by decide)
  have hf : FitB 4 ((k : Rat) / ((255 : Nat) : Rat)) := by
    rw [show ((k : Nat) : Rat) / ((255 : Nat) : Rat) = mkRat (k : Int) 255 by rw [Rat.mkRat_eq_div]; rfl]
    exact fit_mk (by omega) (by simp; omega) (by omega)
  obtain ⟨g1, g2⟩ := Good.of hf (by omega)
  refine ⟨?_, g2⟩
  have i1 := int_of (k : Int)
  have i2 := int_of 255
  have n1 : intE (itoa (k : Int)) = 0 := intE_of (by simp; omega)
  have n2 : intE (itoa 255) = 0 := intE_of (by decide)
  have nz : itoa 255 ≠ [48] := fun e => by
    have := (int_zero i2.1).1 e
    rw [i2.2] at this
    cases this
  unfold makeR ifOk
  rw [if_pos n1, if_pos n2, if_neg nz, i1.2, i2.2, ← g1]
  congr 2
theorem rOver_any (k : Nat) (w : World) (hk : k ≤ 255) : Calls Tryz.prog 55 #[.int .i64 (k : Int), .int .i64 255] w fun e w' => e = .returned (txt (fracT ((k : Rat) / ((255 : Nat) : Rat)))) ∧ Ext w w' := by
  have H := Lib.hid (ofR_any (k : Int) 255 w (by omega) (by omega) (by omega) (by omega))
  rw [(over_good hk).1] at H
  generalize fracT ((k : Rat) / ((255 : Nat) : Rat)) = r at *
  unfold ResP at H
  go_enter Tryz.func55, Tryz.ntmps55
  go_wp2_with (go_at_call 97; refine H.out.mono ?_; rintro e w1 ⟨rfl, hE⟩)
  go_ret
  exact ⟨rfl, hE⟩
set_option maxHeartbeats 4000000 in
set_option maxRecDepth 100000 in
theorem lawWithin_any (a : Enc) (k : Nat) (w : World) (ha : ShortR a) (hk : k ≤ 255) : Calls Tryz.prog 46 #[encV a, .int .u8 (k : Int)] w fun e w' => e = .returned (txt (withinT a k)) ∧ Ext w w' := by
  obtain ⟨o1, o2⟩ := over_good hk
  have g := ha.good
  obtain ⟨m1, m2⟩ := g.hi.sub g.lo (by omega)
  obtain ⟨t1, t2⟩ := o2.mul m2 (by omega)
  obtain ⟨p1, p2⟩ := g.lo.add t2 (by omega)
  have H1 := Lib.hid (fun W => rOver_any k W hk)
  have H2 := Lib.hid (fun W => rMinus_any a.2 a.1 W g.hi.len g.lo.len)
  have H3 := Lib.hid (fun W => rTimes_any (fracT ((k : Rat) / ((255 : Nat) : Rat))) (fracT (fracQ a.2 - fracQ a.1)) W o2.len m2.len)
  have H4 := Lib.hid (fun W => rPlus_any a.1 (fracT ((k : Rat) / ((255 : Nat) : Rat) * (fracQ a.2 - fracQ a.1))) W g.lo.len t2.len)
  rw [m1] at H2
  rw [t1] at H3
  rw [p1] at H4
  have hT : withinT a k = fracT (fracQ a.1 + (k : Rat) / ((255 : Nat) : Rat) * (fracQ a.2 - fracQ a.1)) := rfl
  rw [hT]
  clear o1 o2 g m1 m2 t1 t2 p1 p2 hT
  dsimp only at H2 H3 H4
  generalize fracT (fracQ a.1 + (k : Rat) / ((255 : Nat) : Rat) * (fracQ a.2 - fracQ a.1)) = r4 at *
  generalize fracT ((k : Rat) / ((255 : Nat) : Rat) * (fracQ a.2 - fracQ a.1)) = r3 at *
  generalize fracT (fracQ a.2 - fracQ a.1) = r2 at *
  generalize fracT ((k : Rat) / ((255 : Nat) : Rat)) = r1 at *
  have hcv : IntKind.i64.wrap (k : Int) = (k : Int) := by rw [IntKind.wrap_i64]; omega
  clear ha
  obtain ⟨l, h⟩ := a
  dsimp only [encV] at *
  have A := encAt_new w w.heap.size rfl l h 24
  have E : Ext w (w.alloc (.cells #[txt l, txt h] 24)) := extA
  have hD : Ext (w.alloc (.cells #[txt l, txt h] 24)) (w.alloc (.cells #[txt l, txt h] 24)).drew := extA
  replace E := E.trans hD
  replace A := A.ext hD
  have hS := And.intro A.c0 A.c1
  go_enter Tryz.func46, Tryz.ntmps46
  go_wp2_with fail
  refine wp_region_heldE 99 (fun w' => w'.cell? ⟨w.heap.size, 0, none⟩ = some (txt l) ∧ w'.cell? ⟨w.heap.size, 1, none⟩ = some (txt h)) (by kernel_rfl) ?_
  generalize (w.alloc (.cells #[txt l, txt h] 24)).drew = v0 at E hS ⊢
  clear A hD
  ((refine eTk 0 ?_); (refine eTk 1 ?_); (refine eTk 2 ?_); (refine eTk 3 ?_); (refine eTk 5 ?_); (refine eTk 6 ?_); (refine eTk 7 ?_); (refine eTk 8 ?_))
  (refine wpAnyE_one (i := 4) (o := ?_) ?_ (by kernel_rfl) (fun K hK => ?_); rotate_left; (focus ((simp only [List.getElem?_toArray, List.getElem?_cons_succ, List.getElem?_cons_zero]; exact rfl))); go_simp; go_at_call 55; refine (H1.out _).mono ?_; rintro e v1 ⟨rfl, hE⟩; go_wp2_with fail; refine hK.out _ _ ?_ (fun hHeld => ?_); rotate_left; clear hK K; (try simp only [Act.put, List.setIfInBounds_toArray, List.set_cons_zero, List.set_cons_succ]))
  rotate_left
  · exact ⟨hE.cell hS.1, hE.cell hS.2⟩
  replace E := E.trans hE
  replace hS := And.intro (hE.cell hS.1) (hE.cell hS.2)
  clear hE hHeld H1
  (refine wpAnyE_one (i := 9) (o := ?_) ?_ (by kernel_rfl) (fun K hK => ?_); rotate_left; (focus ((simp only [List.getElem?_toArray, List.getElem?_cons_succ, List.getElem?_cons_zero]; exact rfl))); go_simp; go_at_call 91; refine (H2.out _).mono ?_; rintro e v2 ⟨rfl, hE⟩; go_wp2_with fail; refine hK.out _ _ ?_ (fun hHeld => ?_); rotate_left; clear hK K; (try simp only [Act.put, List.setIfInBounds_toArray, List.set_cons_zero, List.set_cons_succ]))
  rotate_left
  · exact ⟨hE.cell hS.1, hE.cell hS.2⟩
  replace E := E.trans hE
  replace hS := And.intro (hE.cell hS.1) (hE.cell hS.2)
  clear hE hHeld H2
  (refine wpAnyE_one (i := 10) (o := ?_) ?_ (by kernel_rfl) (fun K hK => ?_); rotate_left; (focus ((simp only [List.getElem?_toArray, List.getElem?_cons_succ, List.getElem?_cons_zero]; exact rfl))); go_simp; go_at_call 61; refine (H3.out _).mono ?_; rintro e v3 ⟨rfl, hE⟩; go_wp2_with fail; refine hK.out _ _ ?_ (fun hHeld => ?_); rotate_left; clear hK K; (try simp only [Act.put, List.setIfInBounds_toArray, List.set_cons_zero, List.set_cons_succ]))
  rotate_left
  · exact ⟨hE.cell hS.1, hE.cell hS.2⟩
  replace E := E.trans hE
  replace hS := And.intro (hE.cell hS.1) (hE.cell hS.2)
  clear hE hHeld H3
  (refine wpAnyE_one (i := 11) (o := ?_) ?_ (by kernel_rfl) (fun K hK => ?_); rotate_left; (focus ((simp only [List.getElem?_toArray, List.getElem?_cons_succ, List.getElem?_cons_zero]; exact rfl))); go_simp; go_at_call 90; refine (H4.out _).mono ?_; rintro e v4 ⟨rfl, hE⟩; go_wp2_with fail; refine hK.out _ _ ?_ (fun hHeld => ?_); rotate_left; clear hK K; (try simp only [Act.put, List.setIfInBounds_toArray, List.set_cons_zero, List.set_cons_succ]))
  rotate_left
  · exact ⟨hE.cell hS.1, hE.cell hS.2⟩
  replace E := E.trans hE
  replace hS := And.intro (hE.cell hS.1) (hE.cell hS.2)
  clear hE hHeld H4
  ((refine ePu 12 ?_))
  refine wpAnyE_done (by kernel_rfl) ?_ _
  go_wp2_with fail
  go_ret
  exact ⟨rfl, E⟩
end Go.Proofs.YtdejgaiocjfhjaaGreatDoor
namespace Go.Proofs.YtdejgaiocjfhjaaGreatDoor
open Go.RowKit
structure ValsAt (b : Nat) (W : World) (p q r s : Value) : Prop where
  c0 : W.cell? ⟨b, 0, none⟩ = some p
  c1 : W.cell? ⟨b, 1, none⟩ = some q
  c2 : W.cell? ⟨b, 2, none⟩ = some r
  c3 : W.cell? ⟨b, 3, none⟩ = some s
theorem ValsAt.ext {b : Nat} {A B : World} {p q r s : Value} (x : ValsAt b A p q r s) (e : Ext A B) : ValsAt b B p q r s := ⟨e.cell x.c0, e.cell x.c1, e.cell x.c2, e.cell x.c3⟩
structure RoundD (f g : Nat) (a b : Enc) (x y : Txt) (w : World) (c1 c2 t : Txt) : Prop where
  e : ∀ W, Ext w W → Calls Tryz.prog f #[encV a, encV b] W (EncP ((c1, c2), 0) W)
  q : ∀ W, Ext w W → Calls Tryz.prog g #[txt x, txt y] W (ResP (t, 0) W)
  c : ∀ W, Ext w W → Calls Tryz.prog 42 #[encV (c1, c2), txt t] W (BoolP true 0 W)
end Go.Proofs.YtdejgaiocjfhjaaGreatDoor
namespace Go.Proofs.YtdejgaiocjfhjaaGreatDoor
open Go.RowKit
structure NarD (f : Nat) (n a b : Enc) (w : World) (c1 c2 d1 d2 : Txt) : Prop where
  e : ∀ W, Ext w W → Calls Tryz.prog f #[encV n, encV b] W (EncP ((c1, c2), 0) W)
  q : ∀ W, Ext w W → Calls Tryz.prog f #[encV a, encV b] W (EncP ((d1, d2), 0) W)
  c : ∀ W, Ext w W → Calls Tryz.prog 32 #[encV (c1, c2), encV (d1, d2)] W (BoolP true 0 W)
theorem nar_data {f : Nat} {n a b : Enc} {w : World} {r s : EncR} (hG : Glob w) (h : NarR r s) (he : ∀ W, Ext w W → Calls Tryz.prog f #[encV n, encV b] W (EncP r W)) (hq : ∀ W, Ext w W → Calls Tryz.prog f #[encV a, encV b] W (EncP s W)) :
    ∃ c1 c2 d1 d2, NarD f n a b w c1 c2 d1 d2 := by
  obtain ⟨⟨c1, c2⟩, e⟩ := r
  obtain ⟨⟨d1, d2⟩, z⟩ := s
  have h1 := h.e
  have h2 := h.f
  dsimp only at h1 h2
  subst h1; subst h2
  exact ⟨c1, c2, d1, d2, he, hq, fun W g => by have q := eWithin_any (c1, c2) (d1, d2) W (hG.ext g) h.l h.m; rw [h.c] at q; exact q⟩
set_option maxHeartbeats 32000000 in
set_option maxRecDepth 100000 in
theorem lawNarrows_any (a b : Enc) (k1 k2 : Nat) (w : World) (hG : Glob w) (h1 : k1 ≤ 255) (h2 : k2 ≤ 255) : Calls Tryz.prog 10 #[encV a, encV b, .agg #[.int .u8 (k1 : Int), .int .u8 (k2 : Int)]] w (TrueP w) := by
  have HG := Lib.hid hG
  clear hG
  have HA : Hid (∀ W, Ext w W → Calls Tryz.prog 15 #[] W fun e w' => e = .returned (.bool true) ∧ Ext W w') := fun W h => awake2_any W (HG.out.ext h)
  have HRT := Lib.hid (fun W v n hn hW => right_two a b W 24 n v hn hW)
  unfold TrueP
  cases hok : (okE a && okE b)
  · rw [hok] at HRT
    obtain ⟨l, h⟩ := a
    obtain ⟨m, q⟩ := b
    dsimp only [encV] at HRT ⊢
    clear hok HG
    have A : EncAt w.heap.size ((((w.alloc (.cells #[txt l, txt h] 24)).alloc (.cells #[txt m, txt q] 24)).alloc (.cells #[.int .u8 (k1 : Int), .int .u8 (k2 : Int)] 63)).alloc (.cells #[txt l, txt h, txt m, txt q] 24)) l h := ⟨by go_simp, by go_simp, by go_simp, by go_simp⟩
    have B : EncAt (w.heap.size + 1) ((((w.alloc (.cells #[txt l, txt h] 24)).alloc (.cells #[txt m, txt q] 24)).alloc (.cells #[.int .u8 (k1 : Int), .int .u8 (k2 : Int)] 63)).alloc (.cells #[txt l, txt h, txt m, txt q] 24)) m q := ⟨by go_simp, by go_simp, by go_simp, by go_simp⟩
    have kc0 : ((((w.alloc (.cells #[txt l, txt h] 24)).alloc (.cells #[txt m, txt q] 24)).alloc (.cells #[.int .u8 (k1 : Int), .int .u8 (k2 : Int)] 63)).alloc (.cells #[txt l, txt h, txt m, txt q] 24)).cell? ⟨w.heap.size + 1 + 1, 0, none⟩ = some (.int .u8 (k1 : Int)) := by go_simp
    have kc1 : ((((w.alloc (.cells #[txt l, txt h] 24)).alloc (.cells #[txt m, txt q] 24)).alloc (.cells #[.int .u8 (k1 : Int), .int .u8 (k2 : Int)] 63)).alloc (.cells #[txt l, txt h, txt m, txt q] 24)).cell? ⟨w.heap.size + 1 + 1, 1, none⟩ = some (.int .u8 (k2 : Int)) := by go_simp
    have E : Ext w ((((w.alloc (.cells #[txt l, txt h] 24)).alloc (.cells #[txt m, txt q] 24)).alloc (.cells #[.int .u8 (k1 : Int), .int .u8 (k2 : Int)] 63)).alloc (.cells #[txt l, txt h, txt m, txt q] 24)) := extA
    go_enter Tryz.func10, Tryz.ntmps10
    go_wp2_with fail
    generalize hQ : ((((w.alloc (.cells #[txt l, txt h] 24)).alloc (.cells #[txt m, txt q] 24)).alloc (.cells #[.int .u8 (k1 : Int), .int .u8 (k2 : Int)] 63)).alloc (.cells #[txt l, txt h, txt m, txt q] 24)) = w0 at A B kc0 kc1 E ⊢
    have HR1 := HRT.out w0 (((w.alloc (.cells #[txt l, txt h] 24)).alloc (.cells #[txt m, txt q] 24)).alloc (.cells #[.int .u8 (k1 : Int), .int .u8 (k2 : Int)] 63)) (w.heap.size + 1 + 1 + 1) (by simp) hQ.symm
    clear HRT hQ
    refine HR1.mono ?_
    clear HR1
    rintro e w1 ⟨rfl, hE⟩
    replace E := E.trans hE
    replace A := A.ext hE
    replace B := B.ext hE
    replace kc0 := hE.cell kc0
    replace kc1 := hE.cell kc1
    clear hE
    clear kc0 kc1
    have A' := A
    have B' := B
    obtain ⟨A0, A1, A2, A3⟩ := A
    have zA := cell_lt A0
    dsimp only at zA
    obtain ⟨B0, B1, B2, B3⟩ := B
    have zB := cell_lt B0
    dsimp only at zB
    go_wp2_with fail
    clear A0 A1 A2 A3 zA B0 B1 B2 B3 zB
    have A := A'
    clear A'
    have B := B'
    clear B'
    refine (HA.out _ E).mono ?_
    rintro e w2 ⟨rfl, hE⟩
    replace E := E.trans hE
    replace A := A.ext hE
    replace B := B.ext hE
    clear hE
    go_wp2_with fail
    go_ret
    exact ⟨rfl, E⟩
  rw [hok] at HRT
  obtain ⟨oa, ob⟩ := Bool.and_eq_true_iff.1 hok
  have ha := okE_short oa
  have hb := okE_short ob
  clear hok oa ob
  have hl := ha.good.len
  have hm := hb.good.len
  obtain ⟨kl, hkl⟩ : ∃ kl, kl = min k1 k2 := ⟨_, rfl⟩
  obtain ⟨kh, hkh⟩ : ∃ kh, kh = max k1 k2 := ⟨_, rfl⟩
  have hkk : kl ≤ kh := by omega
  have hkb : kh ≤ 255 := by omega
  have hmin : min (k1 : Int) (k2 : Int) = (kl : Int) := by omega
  have hmax : max (k1 : Int) (k2 : Int) = (kh : Int) := by omega
  have M := law_narrow ha hb hkk hkb
  have W1 := Lib.hid (fun W => lawWithin_any a kl W ha (Nat.le_trans hkk hkb))
  have W2 := Lib.hid (fun W => lawWithin_any a kh W ha hkb)
  have W3 := Lib.hid (fun W => lawOf_any (withinT a kl) (withinT a kh) W)
  generalize withinT a kl = x at *
  generalize withinT a kh = y at *
  have V0 : Hid (∀ W, Ext w W → Calls Tryz.prog 32 #[encV (x, y), encV a] W (BoolP true 0 W)) := fun W g => by have q := eWithin_any (x, y) a W (HG.out.ext g) M.len hl; rw [M.inn] at q; exact q
  have V1 : Hid (∀ W, Ext w W → Calls Tryz.prog 34 #[encV a, encV b] W (IntP (compareE a b).1 0 W)) := fun W g => by have q := eCompare_any a b W (HG.out.ext g) hl hm; rw [M.ab] at q; exact q
  have V2 : Hid (∀ W, Ext w W → Calls Tryz.prog 34 #[encV (x, y), encV b] W (IntP (compareE (x, y) b).1 0 W)) := fun W g => by have q := eCompare_any (x, y) b W (HG.out.ext g) M.len hm; rw [M.nb] at q; exact q
  have hsame := M.same
  obtain ⟨p0, q0, r0, s0, D0⟩ := nar_data (f := 20) (n := (x, y)) (a := a) (b := b) HG.out M.add (fun W g => eAdd_any (x, y) b W (HG.out.ext g) M.len hm) (fun W g => eAdd_any a b W (HG.out.ext g) hl hm)
  obtain ⟨p1, q1, r1, s1, D1⟩ := nar_data (f := 22) (n := (x, y)) (a := a) (b := b) HG.out M.sub (fun W g => eSub_any (x, y) b W (HG.out.ext g) M.len hm) (fun W g => eSub_any a b W (HG.out.ext g) hl hm)
  obtain ⟨p2, q2, r2, s2, D2⟩ := nar_data (f := 24) (n := (x, y)) (a := a) (b := b) HG.out M.mul (fun W g => eMul_any (x, y) b W (HG.out.ext g) M.len hm) (fun W g => eMul_any a b W (HG.out.ext g) hl hm)
  obtain ⟨p3, q3, r3, s3, D3⟩ := nar_data (f := 30) (n := (x, y)) (a := a) (b := b) HG.out M.hull (fun W g => eHull_any (x, y) b W (HG.out.ext g) M.len hm) (fun W g => eHull_any a b W (HG.out.ext g) hl hm)
  have X0 := Lib.hid D0.e
  have Y0 := Lib.hid D0.q
  have C0 := Lib.hid D0.c
  unfold EncP at X0 Y0
  unfold BoolP at C0
  have X1 := Lib.hid D1.e
  have Y1 := Lib.hid D1.q
  have C1 := Lib.hid D1.c
  unfold EncP at X1 Y1
  unfold BoolP at C1
  have X2 := Lib.hid D2.e
  have Y2 := Lib.hid D2.q
  have C2 := Lib.hid D2.c
  unfold EncP at X2 Y2
  unfold BoolP at C2
  have X3 := Lib.hid D3.e
  have Y3 := Lib.hid D3.q
  have C3 := Lib.hid D3.c
  unfold EncP at X3 Y3
  unfold BoolP at C3
  unfold BoolP at V0
  unfold IntP at V1 V2
  generalize (compareE a b).1 = cx at *
  generalize (compareE (x, y) b).1 = cy at *
  obtain ⟨l, h⟩ := a
  obtain ⟨m, q⟩ := b
  dsimp only [encV] at HRT W1 W2 W3 V0 V1 V2 X0 X1 X2 X3 Y0 Y1 Y2 Y3 C0 C1 C2 C3 ⊢
  clear ha hb hl hm D0 D1 D2 D3 M HG hkl hkh hkk hkb
  have hw0 : IntKind.i64.wrap 0 = 0 := by decide
  have A : EncAt w.heap.size ((((w.alloc (.cells #[txt l, txt h] 24)).alloc (.cells #[txt m, txt q] 24)).alloc (.cells #[.int .u8 (k1 : Int), .int .u8 (k2 : Int)] 63)).alloc (.cells #[txt l, txt h, txt m, txt q] 24)) l h := ⟨by go_simp, by go_simp, by go_simp, by go_simp⟩
  have B : EncAt (w.heap.size + 1) ((((w.alloc (.cells #[txt l, txt h] 24)).alloc (.cells #[txt m, txt q] 24)).alloc (.cells #[.int .u8 (k1 : Int), .int .u8 (k2 : Int)] 63)).alloc (.cells #[txt l, txt h, txt m, txt q] 24)) m q := ⟨by go_simp, by go_simp, by go_simp, by go_simp⟩
  have kc0 : ((((w.alloc (.cells #[txt l, txt h] 24)).alloc (.cells #[txt m, txt q] 24)).alloc (.cells #[.int .u8 (k1 : Int), .int .u8 (k2 : Int)] 63)).alloc (.cells #[txt l, txt h, txt m, txt q] 24)).cell? ⟨w.heap.size + 1 + 1, 0, none⟩ = some (.int .u8 (k1 : Int)) := by go_simp
  have kc1 : ((((w.alloc (.cells #[txt l, txt h] 24)).alloc (.cells #[txt m, txt q] 24)).alloc (.cells #[.int .u8 (k1 : Int), .int .u8 (k2 : Int)] 63)).alloc (.cells #[txt l, txt h, txt m, txt q] 24)).cell? ⟨w.heap.size + 1 + 1, 1, none⟩ = some (.int .u8 (k2 : Int)) := by go_simp
  have E : Ext w ((((w.alloc (.cells #[txt l, txt h] 24)).alloc (.cells #[txt m, txt q] 24)).alloc (.cells #[.int .u8 (k1 : Int), .int .u8 (k2 : Int)] 63)).alloc (.cells #[txt l, txt h, txt m, txt q] 24)) := extA
  go_enter Tryz.func10, Tryz.ntmps10
  go_wp2_with fail
  generalize hQ : ((((w.alloc (.cells #[txt l, txt h] 24)).alloc (.cells #[txt m, txt q] 24)).alloc (.cells #[.int .u8 (k1 : Int), .int .u8 (k2 : Int)] 63)).alloc (.cells #[txt l, txt h, txt m, txt q] 24)) = w0 at A B kc0 kc1 E ⊢
  have HR1 := HRT.out w0 (((w.alloc (.cells #[txt l, txt h] 24)).alloc (.cells #[txt m, txt q] 24)).alloc (.cells #[.int .u8 (k1 : Int), .int .u8 (k2 : Int)] 63)) (w.heap.size + 1 + 1 + 1) (by simp) hQ.symm
  clear HRT hQ
  refine HR1.mono ?_
  clear HR1
  rintro e w1 ⟨rfl, hE⟩
  replace E := E.trans hE
  replace A := A.ext hE
  replace B := B.ext hE
  replace kc0 := hE.cell kc0
  replace kc1 := hE.cell kc1
  clear hE
  go_wp2
  go_cut [7] (fun xv wx => ∃ nb, xv = .pointer (some ⟨nb, 0, none⟩) ∧ Hid (EncAt nb wx x y) ∧ Hid (EncAt w.heap.size wx l h) ∧ Hid (EncAt (w.heap.size + 1) wx m q) ∧ Ext w wx)
  case first =>
    have hD : Ext w1 w1.drew := extA
    replace E := E.trans hD
    replace A := A.ext hD
    replace B := B.ext hD
    have hS : w1.drew.cell? ⟨w.heap.size, 0, none⟩ = some (txt l) ∧ w1.drew.cell? ⟨w.heap.size, 1, none⟩ = some (txt h) ∧ w1.drew.cell? ⟨w.heap.size + 1 + 1, 0, none⟩ = some (.int .u8 (k1 : Int)) ∧ w1.drew.cell? ⟨w.heap.size + 1 + 1, 1, none⟩ = some (.int .u8 (k2 : Int)) := ⟨A.c0, A.c1, hD.cell kc0, hD.cell kc1⟩
    refine wp_region_heldE 99 (fun w' => w'.cell? ⟨w.heap.size, 0, none⟩ = some (txt l) ∧ w'.cell? ⟨w.heap.size, 1, none⟩ = some (txt h) ∧ w'.cell? ⟨w.heap.size + 1 + 1, 0, none⟩ = some (.int .u8 (k1 : Int)) ∧ w'.cell? ⟨w.heap.size + 1 + 1, 1, none⟩ = some (.int .u8 (k2 : Int))) (by kernel_rfl) ?_
    clear kc0 kc1 hD
    generalize w1.drew = v0 at A B E hS ⊢
    ((refine eTk 0 ?_); (refine eTk 1 ?_); (refine eTk 2 ?_); (refine eTk 3 ?_); (refine eTk 4 ?_); (refine eTk 5 ?_); (refine eTk 7 ?_); (refine eTk 8 ?_); (refine eTk 9 ?_); (refine eTk 10 ?_); (refine eTk 11 ?_); (refine eTk 12 ?_))
    refine wpAnyE_two (i := 6) (j := 15) (o := ?_) (p := ?_) (by (simp only [List.getElem?_toArray, List.getElem?_cons_succ, List.getElem?_cons_zero]; exact rfl)) (by (simp only [List.getElem?_toArray, List.getElem?_cons_succ, List.getElem?_cons_zero]; exact rfl)) (by kernel_rfl) (fun K hK => ?_) (fun K hK => ?_)
    · go_simp
      go_at_call 46
      refine (W1.out _).mono ?_
      rintro e v1 ⟨rfl, hE⟩
      go_wp2_with fail
      refine hK.out _ _ ⟨hE.cell hS.1, hE.cell hS.2.1, hE.cell hS.2.2.1, hE.cell hS.2.2.2⟩ (fun _ => ?_)
      clear hK K W1
      (try simp only [Act.put, List.setIfInBounds_toArray, List.set_cons_zero, List.set_cons_succ])
      replace E := E.trans hE
      replace A := A.ext hE
      replace B := B.ext hE
      replace hS : v1.cell? ⟨w.heap.size, 0, none⟩ = some (txt l) ∧ v1.cell? ⟨w.heap.size, 1, none⟩ = some (txt h) ∧ v1.cell? ⟨w.heap.size + 1 + 1, 0, none⟩ = some (.int .u8 (k1 : Int)) ∧ v1.cell? ⟨w.heap.size + 1 + 1, 1, none⟩ = some (.int .u8 (k2 : Int)) := ⟨hE.cell hS.1, hE.cell hS.2.1, hE.cell hS.2.2.1, hE.cell hS.2.2.2⟩
      clear hE
      refine wpAnyE_two (i := 13) (j := 15) (o := ?_) (p := ?_) (by (simp only [List.getElem?_toArray, List.getElem?_cons_succ, List.getElem?_cons_zero]; exact rfl)) (by (simp only [List.getElem?_toArray, List.getElem?_cons_succ, List.getElem?_cons_zero]; exact rfl)) (by kernel_rfl) (fun K hK => ?_) (fun K hK => ?_)
      · go_simp
        go_at_call 46
        refine (W2.out _).mono ?_
        rintro e v2 ⟨rfl, hE⟩
        go_wp2_with fail
        refine hK.out _ _ ⟨hE.cell hS.1, hE.cell hS.2.1, hE.cell hS.2.2.1, hE.cell hS.2.2.2⟩ (fun _ => ?_)
        clear hK K W2
        (try simp only [Act.put, List.setIfInBounds_toArray, List.set_cons_zero, List.set_cons_succ])
        replace E := E.trans hE
        replace A := A.ext hE
        replace B := B.ext hE
        replace hS : v2.cell? ⟨w.heap.size, 0, none⟩ = some (txt l) ∧ v2.cell? ⟨w.heap.size, 1, none⟩ = some (txt h) ∧ v2.cell? ⟨w.heap.size + 1 + 1, 0, none⟩ = some (.int .u8 (k1 : Int)) ∧ v2.cell? ⟨w.heap.size + 1 + 1, 1, none⟩ = some (.int .u8 (k2 : Int)) := ⟨hE.cell hS.1, hE.cell hS.2.1, hE.cell hS.2.2.1, hE.cell hS.2.2.2⟩
        clear hE
        refine wpAnyE_two (i := 14) (j := 15) (o := ?_) (p := ?_) (by (simp only [List.getElem?_toArray, List.getElem?_cons_succ, List.getElem?_cons_zero]; exact rfl)) (by (simp only [List.getElem?_toArray, List.getElem?_cons_succ, List.getElem?_cons_zero]; exact rfl)) (by kernel_rfl) (fun K hK => ?_) (fun K hK => ?_)
        · go_simp
          go_at_call 52
          refine (W3.out _).mono ?_
          rintro e v3 ⟨rfl, hE⟩
          go_wp2_with fail
          refine hK.out _ _ ⟨hE.cell hS.1, hE.cell hS.2.1, hE.cell hS.2.2.1, hE.cell hS.2.2.2⟩ (fun _ => ?_)
          clear hK K W3
          (try simp only [Act.put, List.setIfInBounds_toArray, List.set_cons_zero, List.set_cons_succ])
          replace E := E.trans hE
          replace A := A.ext hE
          replace B := B.ext hE
          replace hS : v3.cell? ⟨w.heap.size, 0, none⟩ = some (txt l) ∧ v3.cell? ⟨w.heap.size, 1, none⟩ = some (txt h) ∧ v3.cell? ⟨w.heap.size + 1 + 1, 0, none⟩ = some (.int .u8 (k1 : Int)) ∧ v3.cell? ⟨w.heap.size + 1 + 1, 1, none⟩ = some (.int .u8 (k2 : Int)) := ⟨hE.cell hS.1, hE.cell hS.2.1, hE.cell hS.2.2.1, hE.cell hS.2.2.2⟩
          clear hE
          have EB : Ext v3 (v3.alloc (.cells #[.string ⟨#[]⟩, .string ⟨#[]⟩] 24)) := extA
          have N := encAt_new v3 v3.heap.size rfl [] [] 24
          have hnn : w.heap.size ≤ v3.heap.size := E.size
          have hza := cell_lt A.c0
          have hzb := cell_lt B.c0
          have hzk := cell_lt hS.2.2.1
          dsimp only at hza hzb hzk
          (refine wpAnyE_one (i := 15) (o := ?_) ?_ (by kernel_rfl) (fun K hK => ?_); rotate_left; (focus ((simp only [List.getElem?_toArray, List.getElem?_cons_succ, List.getElem?_cons_zero]; exact rfl))); go_simp; refine hK.out _ _ ?_ (fun hHeld => ?_); rotate_left; clear hK K; (try simp only [Act.put, List.setIfInBounds_toArray, List.set_cons_zero, List.set_cons_succ]))
          rotate_left
          · exact ⟨EB.cell hS.1, EB.cell hS.2.1, EB.cell hS.2.2.1, EB.cell hS.2.2.2⟩
          clear hHeld
          replace E := E.trans EB
          replace A := A.ext EB
          replace B := B.ext EB
          replace hS : (v3.alloc (.cells #[.string ⟨#[]⟩, .string ⟨#[]⟩] 24)).cell? ⟨w.heap.size, 0, none⟩ = some (txt l) ∧ (v3.alloc (.cells #[.string ⟨#[]⟩, .string ⟨#[]⟩] 24)).cell? ⟨w.heap.size, 1, none⟩ = some (txt h) ∧ (v3.alloc (.cells #[.string ⟨#[]⟩, .string ⟨#[]⟩] 24)).cell? ⟨w.heap.size + 1 + 1, 0, none⟩ = some (.int .u8 (k1 : Int)) ∧ (v3.alloc (.cells #[.string ⟨#[]⟩, .string ⟨#[]⟩] 24)).cell? ⟨w.heap.size + 1 + 1, 1, none⟩ = some (.int .u8 (k2 : Int)) := ⟨EB.cell hS.1, EB.cell hS.2.1, EB.cell hS.2.2.1, EB.cell hS.2.2.2⟩
          clear EB
          obtain ⟨nb, hnb⟩ : ∃ nb, nb = v3.heap.size := ⟨_, rfl⟩
          rw [← hnb] at N hnn hza hzb hzk ⊢
          generalize (v3.alloc (.cells #[.string ⟨#[]⟩, .string ⟨#[]⟩] 24)) = v3n at A B E N hS ⊢
          clear hnb
          have N0 := N
          obtain ⟨n0, n1, n2, n3⟩ := N0
          have N2 := (N.set0 x).set1 y
          have A2 := A.two (c := nb) (o1 := 0) (v := txt x) (o2 := 1) (u := txt y) (by omega)
          have B2 := B.two (c := nb) (o1 := 0) (v := txt x) (o2 := 1) (u := txt y) (by omega)
          have E2 := (E.set (b := nb) (o := 0) hnn (txt x)).set (b := nb) (o := 1) hnn (txt y)
          have hS2 : ((v3n.setCell ⟨nb, 0, none⟩ (txt x)).setCell ⟨nb, 1, none⟩ (txt y)).cell? ⟨w.heap.size, 0, none⟩ = some (txt l) ∧ ((v3n.setCell ⟨nb, 0, none⟩ (txt x)).setCell ⟨nb, 1, none⟩ (txt y)).cell? ⟨w.heap.size, 1, none⟩ = some (txt h) ∧ ((v3n.setCell ⟨nb, 0, none⟩ (txt x)).setCell ⟨nb, 1, none⟩ (txt y)).cell? ⟨w.heap.size + 1 + 1, 0, none⟩ = some (.int .u8 (k1 : Int)) ∧ ((v3n.setCell ⟨nb, 0, none⟩ (txt x)).setCell ⟨nb, 1, none⟩ (txt y)).cell? ⟨w.heap.size + 1 + 1, 1, none⟩ = some (.int .u8 (k2 : Int)) := ⟨A2.c0, A2.c1, oth2 (by omega) hS.2.2.1, oth2 (by omega) hS.2.2.2⟩
          (refine wpAnyE_one (i := 16) (o := ?_) ?_ (by kernel_rfl) (fun K hK => ?_); rotate_left; (focus ((simp only [List.getElem?_toArray, List.getElem?_cons_succ, List.getElem?_cons_zero]; exact rfl))); go_simp; refine hK.out _ _ ?_ (fun hHeld => ?_); rotate_left; clear hK K; (try simp only [Act.put, List.setIfInBounds_toArray, List.set_cons_zero, List.set_cons_succ]))
          rotate_left
          · exact hS2
          clear hHeld hS hS2 n0 n1 n2 n3
          refine wpAnyE_done (by kernel_rfl) ?_ _
          go_wp2_with fail
          go_meet
          exact ⟨nb, rfl, N2, A2, B2, E2⟩
        · have EB : Ext v2 (v2.alloc (.cells #[.string ⟨#[]⟩, .string ⟨#[]⟩] 24)) := extA
          have N := encAt_new v2 v2.heap.size rfl [] [] 24
          have hnn : w.heap.size ≤ v2.heap.size := E.size
          have hza := cell_lt A.c0
          have hzb := cell_lt B.c0
          have hzk := cell_lt hS.2.2.1
          dsimp only at hza hzb hzk
          go_simp
          refine hK.out _ _ ⟨EB.cell hS.1, EB.cell hS.2.1, EB.cell hS.2.2.1, EB.cell hS.2.2.2⟩ (fun _ => ?_)
          clear hK K
          (try simp only [Act.put, List.setIfInBounds_toArray, List.set_cons_zero, List.set_cons_succ])
          replace E := E.trans EB
          replace A := A.ext EB
          replace B := B.ext EB
          replace hS : (v2.alloc (.cells #[.string ⟨#[]⟩, .string ⟨#[]⟩] 24)).cell? ⟨w.heap.size, 0, none⟩ = some (txt l) ∧ (v2.alloc (.cells #[.string ⟨#[]⟩, .string ⟨#[]⟩] 24)).cell? ⟨w.heap.size, 1, none⟩ = some (txt h) ∧ (v2.alloc (.cells #[.string ⟨#[]⟩, .string ⟨#[]⟩] 24)).cell? ⟨w.heap.size + 1 + 1, 0, none⟩ = some (.int .u8 (k1 : Int)) ∧ (v2.alloc (.cells #[.string ⟨#[]⟩, .string ⟨#[]⟩] 24)).cell? ⟨w.heap.size + 1 + 1, 1, none⟩ = some (.int .u8 (k2 : Int)) := ⟨EB.cell hS.1, EB.cell hS.2.1, EB.cell hS.2.2.1, EB.cell hS.2.2.2⟩
          clear EB
          obtain ⟨nb, hnb⟩ : ∃ nb, nb = v2.heap.size := ⟨_, rfl⟩
          rw [← hnb] at N hnn hza hzb hzk ⊢
          generalize (v2.alloc (.cells #[.string ⟨#[]⟩, .string ⟨#[]⟩] 24)) = v2n at A B E N hS ⊢
          clear hnb
          (refine wpAnyE_one (i := 14) (o := ?_) ?_ (by kernel_rfl) (fun K hK => ?_); rotate_left; (focus ((simp only [List.getElem?_toArray, List.getElem?_cons_succ, List.getElem?_cons_zero]; exact rfl))); go_simp; go_at_call 52; refine (W3.out _).mono ?_; rintro e v3 ⟨rfl, hE⟩; go_wp2_with fail; refine hK.out _ _ ?_ (fun hHeld => ?_); rotate_left; clear hK K; (try simp only [Act.put, List.setIfInBounds_toArray, List.set_cons_zero, List.set_cons_succ]))
          rotate_left
          · exact ⟨hE.cell hS.1, hE.cell hS.2.1, hE.cell hS.2.2.1, hE.cell hS.2.2.2⟩
          clear hHeld W3
          replace E := E.trans hE
          replace A := A.ext hE
          replace B := B.ext hE
          replace N := N.ext hE
          replace hS : v3.cell? ⟨w.heap.size, 0, none⟩ = some (txt l) ∧ v3.cell? ⟨w.heap.size, 1, none⟩ = some (txt h) ∧ v3.cell? ⟨w.heap.size + 1 + 1, 0, none⟩ = some (.int .u8 (k1 : Int)) ∧ v3.cell? ⟨w.heap.size + 1 + 1, 1, none⟩ = some (.int .u8 (k2 : Int)) := ⟨hE.cell hS.1, hE.cell hS.2.1, hE.cell hS.2.2.1, hE.cell hS.2.2.2⟩
          clear hE
          have N0 := N
          obtain ⟨n0, n1, n2, n3⟩ := N0
          have N2 := (N.set0 x).set1 y
          have A2 := A.two (c := nb) (o1 := 0) (v := txt x) (o2 := 1) (u := txt y) (by omega)
          have B2 := B.two (c := nb) (o1 := 0) (v := txt x) (o2 := 1) (u := txt y) (by omega)
          have E2 := (E.set (b := nb) (o := 0) hnn (txt x)).set (b := nb) (o := 1) hnn (txt y)
          have hS2 : ((v3.setCell ⟨nb, 0, none⟩ (txt x)).setCell ⟨nb, 1, none⟩ (txt y)).cell? ⟨w.heap.size, 0, none⟩ = some (txt l) ∧ ((v3.setCell ⟨nb, 0, none⟩ (txt x)).setCell ⟨nb, 1, none⟩ (txt y)).cell? ⟨w.heap.size, 1, none⟩ = some (txt h) ∧ ((v3.setCell ⟨nb, 0, none⟩ (txt x)).setCell ⟨nb, 1, none⟩ (txt y)).cell? ⟨w.heap.size + 1 + 1, 0, none⟩ = some (.int .u8 (k1 : Int)) ∧ ((v3.setCell ⟨nb, 0, none⟩ (txt x)).setCell ⟨nb, 1, none⟩ (txt y)).cell? ⟨w.heap.size + 1 + 1, 1, none⟩ = some (.int .u8 (k2 : Int)) := ⟨A2.c0, A2.c1, oth2 (by omega) hS.2.2.1, oth2 (by omega) hS.2.2.2⟩
          (refine wpAnyE_one (i := 16) (o := ?_) ?_ (by kernel_rfl) (fun K hK => ?_); rotate_left; (focus ((simp only [List.getElem?_toArray, List.getElem?_cons_succ, List.getElem?_cons_zero]; exact rfl))); go_simp; refine hK.out _ _ ?_ (fun hHeld => ?_); rotate_left; clear hK K; (try simp only [Act.put, List.setIfInBounds_toArray, List.set_cons_zero, List.set_cons_succ]))
          rotate_left
          · exact hS2
          clear hHeld hS hS2 n0 n1 n2 n3
          refine wpAnyE_done (by kernel_rfl) ?_ _
          go_wp2_with fail
          go_meet
          exact ⟨nb, rfl, N2, A2, B2, E2⟩
      · have EB : Ext v1 (v1.alloc (.cells #[.string ⟨#[]⟩, .string ⟨#[]⟩] 24)) := extA
        have N := encAt_new v1 v1.heap.size rfl [] [] 24
        have hnn : w.heap.size ≤ v1.heap.size := E.size
        have hza := cell_lt A.c0
        have hzb := cell_lt B.c0
        have hzk := cell_lt hS.2.2.1
        dsimp only at hza hzb hzk
        go_simp
        refine hK.out _ _ ⟨EB.cell hS.1, EB.cell hS.2.1, EB.cell hS.2.2.1, EB.cell hS.2.2.2⟩ (fun _ => ?_)
        clear hK K
        (try simp only [Act.put, List.setIfInBounds_toArray, List.set_cons_zero, List.set_cons_succ])
        replace E := E.trans EB
        replace A := A.ext EB
        replace B := B.ext EB
        replace hS : (v1.alloc (.cells #[.string ⟨#[]⟩, .string ⟨#[]⟩] 24)).cell? ⟨w.heap.size, 0, none⟩ = some (txt l) ∧ (v1.alloc (.cells #[.string ⟨#[]⟩, .string ⟨#[]⟩] 24)).cell? ⟨w.heap.size, 1, none⟩ = some (txt h) ∧ (v1.alloc (.cells #[.string ⟨#[]⟩, .string ⟨#[]⟩] 24)).cell? ⟨w.heap.size + 1 + 1, 0, none⟩ = some (.int .u8 (k1 : Int)) ∧ (v1.alloc (.cells #[.string ⟨#[]⟩, .string ⟨#[]⟩] 24)).cell? ⟨w.heap.size + 1 + 1, 1, none⟩ = some (.int .u8 (k2 : Int)) := ⟨EB.cell hS.1, EB.cell hS.2.1, EB.cell hS.2.2.1, EB.cell hS.2.2.2⟩
        clear EB
        obtain ⟨nb, hnb⟩ : ∃ nb, nb = v1.heap.size := ⟨_, rfl⟩
        rw [← hnb] at N hnn hza hzb hzk ⊢
        generalize (v1.alloc (.cells #[.string ⟨#[]⟩, .string ⟨#[]⟩] 24)) = v1n at A B E N hS ⊢
        clear hnb
        (refine wpAnyE_one (i := 13) (o := ?_) ?_ (by kernel_rfl) (fun K hK => ?_); rotate_left; (focus ((simp only [List.getElem?_toArray, List.getElem?_cons_succ, List.getElem?_cons_zero]; exact rfl))); go_simp; go_at_call 46; refine (W2.out _).mono ?_; rintro e v2 ⟨rfl, hE⟩; go_wp2_with fail; refine hK.out _ _ ?_ (fun hHeld => ?_); rotate_left; clear hK K; (try simp only [Act.put, List.setIfInBounds_toArray, List.set_cons_zero, List.set_cons_succ]))
        rotate_left
        · exact ⟨hE.cell hS.1, hE.cell hS.2.1, hE.cell hS.2.2.1, hE.cell hS.2.2.2⟩
        clear hHeld W2
        replace E := E.trans hE
        replace A := A.ext hE
        replace B := B.ext hE
        replace N := N.ext hE
        replace hS : v2.cell? ⟨w.heap.size, 0, none⟩ = some (txt l) ∧ v2.cell? ⟨w.heap.size, 1, none⟩ = some (txt h) ∧ v2.cell? ⟨w.heap.size + 1 + 1, 0, none⟩ = some (.int .u8 (k1 : Int)) ∧ v2.cell? ⟨w.heap.size + 1 + 1, 1, none⟩ = some (.int .u8 (k2 : Int)) := ⟨hE.cell hS.1, hE.cell hS.2.1, hE.cell hS.2.2.1, hE.cell hS.2.2.2⟩
        clear hE
        (refine wpAnyE_one (i := 14) (o := ?_) ?_ (by kernel_rfl) (fun K hK => ?_); rotate_left; (focus ((simp only [List.getElem?_toArray, List.getElem?_cons_succ, List.getElem?_cons_zero]; exact rfl))); go_simp; go_at_call 52; refine (W3.out _).mono ?_; rintro e v3 ⟨rfl, hE⟩; go_wp2_with fail; refine hK.out _ _ ?_ (fun hHeld => ?_); rotate_left; clear hK K; (try simp only [Act.put, List.setIfInBounds_toArray, List.set_cons_zero, List.set_cons_succ]))
        rotate_left
        · exact ⟨hE.cell hS.1, hE.cell hS.2.1, hE.cell hS.2.2.1, hE.cell hS.2.2.2⟩
        clear hHeld W3
        replace E := E.trans hE
        replace A := A.ext hE
        replace B := B.ext hE
        replace N := N.ext hE
        replace hS : v3.cell? ⟨w.heap.size, 0, none⟩ = some (txt l) ∧ v3.cell? ⟨w.heap.size, 1, none⟩ = some (txt h) ∧ v3.cell? ⟨w.heap.size + 1 + 1, 0, none⟩ = some (.int .u8 (k1 : Int)) ∧ v3.cell? ⟨w.heap.size + 1 + 1, 1, none⟩ = some (.int .u8 (k2 : Int)) := ⟨hE.cell hS.1, hE.cell hS.2.1, hE.cell hS.2.2.1, hE.cell hS.2.2.2⟩
        clear hE
        have N0 := N
        obtain ⟨n0, n1, n2, n3⟩ := N0
        have N2 := (N.set0 x).set1 y
        have A2 := A.two (c := nb) (o1 := 0) (v := txt x) (o2 := 1) (u := txt y) (by omega)
        have B2 := B.two (c := nb) (o1 := 0) (v := txt x) (o2 := 1) (u := txt y) (by omega)
        have E2 := (E.set (b := nb) (o := 0) hnn (txt x)).set (b := nb) (o := 1) hnn (txt y)
        have hS2 : ((v3.setCell ⟨nb, 0, none⟩ (txt x)).setCell ⟨nb, 1, none⟩ (txt y)).cell? ⟨w.heap.size, 0, none⟩ = some (txt l) ∧ ((v3.setCell ⟨nb, 0, none⟩ (txt x)).setCell ⟨nb, 1, none⟩ (txt y)).cell? ⟨w.heap.size, 1, none⟩ = some (txt h) ∧ ((v3.setCell ⟨nb, 0, none⟩ (txt x)).setCell ⟨nb, 1, none⟩ (txt y)).cell? ⟨w.heap.size + 1 + 1, 0, none⟩ = some (.int .u8 (k1 : Int)) ∧ ((v3.setCell ⟨nb, 0, none⟩ (txt x)).setCell ⟨nb, 1, none⟩ (txt y)).cell? ⟨w.heap.size + 1 + 1, 1, none⟩ = some (.int .u8 (k2 : Int)) := ⟨A2.c0, A2.c1, oth2 (by omega) hS.2.2.1, oth2 (by omega) hS.2.2.2⟩
        (refine wpAnyE_one (i := 16) (o := ?_) ?_ (by kernel_rfl) (fun K hK => ?_); rotate_left; (focus ((simp only [List.getElem?_toArray, List.getElem?_cons_succ, List.getElem?_cons_zero]; exact rfl))); go_simp; refine hK.out _ _ ?_ (fun hHeld => ?_); rotate_left; clear hK K; (try simp only [Act.put, List.setIfInBounds_toArray, List.set_cons_zero, List.set_cons_succ]))
        rotate_left
        · exact hS2
        clear hHeld hS hS2 n0 n1 n2 n3
        refine wpAnyE_done (by kernel_rfl) ?_ _
        go_wp2_with fail
        go_meet
        exact ⟨nb, rfl, N2, A2, B2, E2⟩
    · have EB : Ext v0 (v0.alloc (.cells #[.string ⟨#[]⟩, .string ⟨#[]⟩] 24)) := extA
      have N := encAt_new v0 v0.heap.size rfl [] [] 24
      have hnn : w.heap.size ≤ v0.heap.size := E.size
      have hza := cell_lt A.c0
      have hzb := cell_lt B.c0
      have hzk := cell_lt hS.2.2.1
      dsimp only at hza hzb hzk
      go_simp
      refine hK.out _ _ ⟨EB.cell hS.1, EB.cell hS.2.1, EB.cell hS.2.2.1, EB.cell hS.2.2.2⟩ (fun _ => ?_)
      clear hK K
      (try simp only [Act.put, List.setIfInBounds_toArray, List.set_cons_zero, List.set_cons_succ])
      replace E := E.trans EB
      replace A := A.ext EB
      replace B := B.ext EB
      replace hS : (v0.alloc (.cells #[.string ⟨#[]⟩, .string ⟨#[]⟩] 24)).cell? ⟨w.heap.size, 0, none⟩ = some (txt l) ∧ (v0.alloc (.cells #[.string ⟨#[]⟩, .string ⟨#[]⟩] 24)).cell? ⟨w.heap.size, 1, none⟩ = some (txt h) ∧ (v0.alloc (.cells #[.string ⟨#[]⟩, .string ⟨#[]⟩] 24)).cell? ⟨w.heap.size + 1 + 1, 0, none⟩ = some (.int .u8 (k1 : Int)) ∧ (v0.alloc (.cells #[.string ⟨#[]⟩, .string ⟨#[]⟩] 24)).cell? ⟨w.heap.size + 1 + 1, 1, none⟩ = some (.int .u8 (k2 : Int)) := ⟨EB.cell hS.1, EB.cell hS.2.1, EB.cell hS.2.2.1, EB.cell hS.2.2.2⟩
      clear EB
      obtain ⟨nb, hnb⟩ : ∃ nb, nb = v0.heap.size := ⟨_, rfl⟩
      rw [← hnb] at N hnn hza hzb hzk ⊢
      generalize (v0.alloc (.cells #[.string ⟨#[]⟩, .string ⟨#[]⟩] 24)) = v0n at A B E N hS ⊢
      clear hnb
      (refine wpAnyE_one (i := 6) (o := ?_) ?_ (by kernel_rfl) (fun K hK => ?_); rotate_left; (focus ((simp only [List.getElem?_toArray, List.getElem?_cons_succ, List.getElem?_cons_zero]; exact rfl))); go_simp; go_at_call 46; refine (W1.out _).mono ?_; rintro e v1 ⟨rfl, hE⟩; go_wp2_with fail; refine hK.out _ _ ?_ (fun hHeld => ?_); rotate_left; clear hK K; (try simp only [Act.put, List.setIfInBounds_toArray, List.set_cons_zero, List.set_cons_succ]))
      rotate_left
      · exact ⟨hE.cell hS.1, hE.cell hS.2.1, hE.cell hS.2.2.1, hE.cell hS.2.2.2⟩
      clear hHeld W1
      replace E := E.trans hE
      replace A := A.ext hE
      replace B := B.ext hE
      replace N := N.ext hE
      replace hS : v1.cell? ⟨w.heap.size, 0, none⟩ = some (txt l) ∧ v1.cell? ⟨w.heap.size, 1, none⟩ = some (txt h) ∧ v1.cell? ⟨w.heap.size + 1 + 1, 0, none⟩ = some (.int .u8 (k1 : Int)) ∧ v1.cell? ⟨w.heap.size + 1 + 1, 1, none⟩ = some (.int .u8 (k2 : Int)) := ⟨hE.cell hS.1, hE.cell hS.2.1, hE.cell hS.2.2.1, hE.cell hS.2.2.2⟩
      clear hE
      (refine wpAnyE_one (i := 13) (o := ?_) ?_ (by kernel_rfl) (fun K hK => ?_); rotate_left; (focus ((simp only [List.getElem?_toArray, List.getElem?_cons_succ, List.getElem?_cons_zero]; exact rfl))); go_simp; go_at_call 46; refine (W2.out _).mono ?_; rintro e v2 ⟨rfl, hE⟩; go_wp2_with fail; refine hK.out _ _ ?_ (fun hHeld => ?_); rotate_left; clear hK K; (try simp only [Act.put, List.setIfInBounds_toArray, List.set_cons_zero, List.set_cons_succ]))
      rotate_left
      · exact ⟨hE.cell hS.1, hE.cell hS.2.1, hE.cell hS.2.2.1, hE.cell hS.2.2.2⟩
      clear hHeld W2
      replace E := E.trans hE
      replace A := A.ext hE
      replace B := B.ext hE
      replace N := N.ext hE
      replace hS : v2.cell? ⟨w.heap.size, 0, none⟩ = some (txt l) ∧ v2.cell? ⟨w.heap.size, 1, none⟩ = some (txt h) ∧ v2.cell? ⟨w.heap.size + 1 + 1, 0, none⟩ = some (.int .u8 (k1 : Int)) ∧ v2.cell? ⟨w.heap.size + 1 + 1, 1, none⟩ = some (.int .u8 (k2 : Int)) := ⟨hE.cell hS.1, hE.cell hS.2.1, hE.cell hS.2.2.1, hE.cell hS.2.2.2⟩
      clear hE
      (refine wpAnyE_one (i := 14) (o := ?_) ?_ (by kernel_rfl) (fun K hK => ?_); rotate_left; (focus ((simp only [List.getElem?_toArray, List.getElem?_cons_succ, List.getElem?_cons_zero]; exact rfl))); go_simp; go_at_call 52; refine (W3.out _).mono ?_; rintro e v3 ⟨rfl, hE⟩; go_wp2_with fail; refine hK.out _ _ ?_ (fun hHeld => ?_); rotate_left; clear hK K; (try simp only [Act.put, List.setIfInBounds_toArray, List.set_cons_zero, List.set_cons_succ]))
      rotate_left
      · exact ⟨hE.cell hS.1, hE.cell hS.2.1, hE.cell hS.2.2.1, hE.cell hS.2.2.2⟩
      clear hHeld W3
      replace E := E.trans hE
      replace A := A.ext hE
      replace B := B.ext hE
      replace N := N.ext hE
      replace hS : v3.cell? ⟨w.heap.size, 0, none⟩ = some (txt l) ∧ v3.cell? ⟨w.heap.size, 1, none⟩ = some (txt h) ∧ v3.cell? ⟨w.heap.size + 1 + 1, 0, none⟩ = some (.int .u8 (k1 : Int)) ∧ v3.cell? ⟨w.heap.size + 1 + 1, 1, none⟩ = some (.int .u8 (k2 : Int)) := ⟨hE.cell hS.1, hE.cell hS.2.1, hE.cell hS.2.2.1, hE.cell hS.2.2.2⟩
      clear hE
      have N0 := N
      obtain ⟨n0, n1, n2, n3⟩ := N0
      have N2 := (N.set0 x).set1 y
      have A2 := A.two (c := nb) (o1 := 0) (v := txt x) (o2 := 1) (u := txt y) (by omega)
      have B2 := B.two (c := nb) (o1 := 0) (v := txt x) (o2 := 1) (u := txt y) (by omega)
      have E2 := (E.set (b := nb) (o := 0) hnn (txt x)).set (b := nb) (o := 1) hnn (txt y)
      have hS2 : ((v3.setCell ⟨nb, 0, none⟩ (txt x)).setCell ⟨nb, 1, none⟩ (txt y)).cell? ⟨w.heap.size, 0, none⟩ = some (txt l) ∧ ((v3.setCell ⟨nb, 0, none⟩ (txt x)).setCell ⟨nb, 1, none⟩ (txt y)).cell? ⟨w.heap.size, 1, none⟩ = some (txt h) ∧ ((v3.setCell ⟨nb, 0, none⟩ (txt x)).setCell ⟨nb, 1, none⟩ (txt y)).cell? ⟨w.heap.size + 1 + 1, 0, none⟩ = some (.int .u8 (k1 : Int)) ∧ ((v3.setCell ⟨nb, 0, none⟩ (txt x)).setCell ⟨nb, 1, none⟩ (txt y)).cell? ⟨w.heap.size + 1 + 1, 1, none⟩ = some (.int .u8 (k2 : Int)) := ⟨A2.c0, A2.c1, oth2 (by omega) hS.2.2.1, oth2 (by omega) hS.2.2.2⟩
      (refine wpAnyE_one (i := 16) (o := ?_) ?_ (by kernel_rfl) (fun K hK => ?_); rotate_left; (focus ((simp only [List.getElem?_toArray, List.getElem?_cons_succ, List.getElem?_cons_zero]; exact rfl))); go_simp; refine hK.out _ _ ?_ (fun hHeld => ?_); rotate_left; clear hK K; (try simp only [Act.put, List.setIfInBounds_toArray, List.set_cons_zero, List.set_cons_succ]))
      rotate_left
      · exact hS2
      clear hHeld hS hS2 n0 n1 n2 n3
      refine wpAnyE_done (by kernel_rfl) ?_ _
      go_wp2_with fail
      go_meet
      exact ⟨nb, rfl, N2, A2, B2, E2⟩
  case rest =>
    obtain ⟨nb, rfl, HN, HA2, HB2, E2⟩ := hcut
    have N := HN.out
    have A := HA2.out
    have B := HB2.out
    have E := E2
    clear HN HA2 HB2 E2 kc0 kc1 hmin hmax W1 W2 W3
    generalize wc = w2 at N A B E ⊢
    have A' := A
    have B' := B
    have N' := N
    obtain ⟨A0, A1, A2, A3⟩ := A
    have zA := cell_lt A0
    dsimp only at zA
    obtain ⟨B0, B1, B2, B3⟩ := B
    have zB := cell_lt B0
    dsimp only at zB
    obtain ⟨N0, N1, N2, N3⟩ := N
    have zN := cell_lt N0
    dsimp only at zN
    go_wp2_with fail
    clear A0 A1 A2 A3 zA B0 B1 B2 B3 zB N0 N1 N2 N3 zN
    have A := A'
    clear A'
    have B := B'
    clear B'
    have N := N'
    clear N'
    refine (V0.out _ E).mono ?_
    clear V0
    rintro e w3 ⟨rfl, hE⟩
    replace E := E.trans hE
    replace A := A.ext hE
    replace B := B.ext hE
    replace N := N.ext hE
    clear hE
    have A' := A
    have B' := B
    have N' := N
    obtain ⟨A0, A1, A2, A3⟩ := A
    have zA := cell_lt A0
    dsimp only at zA
    obtain ⟨B0, B1, B2, B3⟩ := B
    have zB := cell_lt B0
    dsimp only at zB
    obtain ⟨N0, N1, N2, N3⟩ := N
    have zN := cell_lt N0
    dsimp only at zN
    go_wp2_with fail
    clear A0 A1 A2 A3 zA B0 B1 B2 B3 zB N0 N1 N2 N3 zN
    have A := A'
    clear A'
    have B := B'
    clear B'
    have N := N'
    clear N'
    refine (V1.out _ E).mono ?_
    clear V1
    rintro e w4 ⟨rfl, hE⟩
    replace E := E.trans hE
    replace A := A.ext hE
    replace B := B.ext hE
    replace N := N.ext hE
    clear hE
    have A' := A
    have B' := B
    have N' := N
    obtain ⟨A0, A1, A2, A3⟩ := A
    have zA := cell_lt A0
    dsimp only at zA
    obtain ⟨B0, B1, B2, B3⟩ := B
    have zB := cell_lt B0
    dsimp only at zB
    obtain ⟨N0, N1, N2, N3⟩ := N
    have zN := cell_lt N0
    dsimp only at zN
    go_wp2_with fail
    clear A0 A1 A2 A3 zA B0 B1 B2 B3 zB N0 N1 N2 N3 zN
    have A := A'
    clear A'
    have B := B'
    clear B'
    have N := N'
    clear N'
    refine (V2.out _ E).mono ?_
    clear V2
    rintro e w5 ⟨rfl, hE⟩
    replace E := E.trans hE
    replace A := A.ext hE
    replace B := B.ext hE
    replace N := N.ext hE
    clear hE
    by_cases hcx : cx = 0
    · subst hcx
      clear hsame
      have A' := A
      have B' := B
      have N' := N
      obtain ⟨A0, A1, A2, A3⟩ := A
      have zA := cell_lt A0
      dsimp only at zA
      obtain ⟨B0, B1, B2, B3⟩ := B
      have zB := cell_lt B0
      dsimp only at zB
      obtain ⟨N0, N1, N2, N3⟩ := N
      have zN := cell_lt N0
      dsimp only at zN
      have F : ValsAt (w5.heap.size) (w5.alloc (.cells #[.func (.func 20) #[] #[], .func (.func 22) #[] #[], .func (.func 24) #[] #[], .func (.func 30) #[] #[]] 36)) (.func (.func 20) #[] #[]) (.func (.func 22) #[] #[]) (.func (.func 24) #[] #[]) (.func (.func 30) #[] #[]) := ⟨by go_simp, by go_simp, by go_simp, by go_simp⟩
      have EA : Ext w5 (w5.alloc (.cells #[.func (.func 20) #[] #[], .func (.func 22) #[] #[], .func (.func 24) #[] #[], .func (.func 30) #[] #[]] 36)) := extA
      replace A' := A'.ext EA
      replace B' := B'.ext EA
      replace N' := N'.ext EA
      replace E := E.trans EA
      clear EA
      go_wp2
      clear A0 A1 A2 A3 zA B0 B1 B2 B3 zB N0 N1 N2 N3 zN
      have A := A'
      clear A'
      have B := B'
      clear B'
      have N := N'
      clear N'
      obtain ⟨bF, hbF⟩ : ∃ b, b = w5.heap.size := ⟨_, rfl⟩
      rw [← hbF] at F  ⊢
      generalize (w5.alloc (.cells #[.func (.func 20) #[] #[], .func (.func 22) #[] #[], .func (.func 24) #[] #[], .func (.func 30) #[] #[]] 36)) = w6 at A B N F E ⊢
      clear hbF
      refine wp_loop_rounds 5 ?_
      rw [rounds_succ]
      have A' := A
      have B' := B
      have N' := N
      have F' := F
      obtain ⟨A0, A1, A2, A3⟩ := A
      have zA := cell_lt A0
      dsimp only at zA
      obtain ⟨B0, B1, B2, B3⟩ := B
      have zB := cell_lt B0
      dsimp only at zB
      obtain ⟨N0, N1, N2, N3⟩ := N
      have zN := cell_lt N0
      dsimp only at zN
      obtain ⟨F0, F1, F2, F3⟩ := F
      have zF := cell_lt F0
      dsimp only at zF
      go_wp2_with fail
      clear A0 A1 A2 A3 zA B0 B1 B2 B3 zB N0 N1 N2 N3 zN F0 F1 F2 F3 zF
      have A := A'
      clear A'
      have B := B'
      clear B'
      have N := N'
      clear N'
      have F := F'
      clear F'
      refine (X0.out _ E).mono ?_
      clear X0
      rintro e w7 ⟨rfl, hE⟩
      replace E := E.trans hE
      replace A := A.ext hE
      replace B := B.ext hE
      replace N := N.ext hE
      replace F := F.ext hE
      clear hE
      have A' := A
      have B' := B
      have N' := N
      have F' := F
      obtain ⟨A0, A1, A2, A3⟩ := A
      have zA := cell_lt A0
      dsimp only at zA
      obtain ⟨B0, B1, B2, B3⟩ := B
      have zB := cell_lt B0
      dsimp only at zB
      obtain ⟨N0, N1, N2, N3⟩ := N
      have zN := cell_lt N0
      dsimp only at zN
      obtain ⟨F0, F1, F2, F3⟩ := F
      have zF := cell_lt F0
      dsimp only at zF
      have C : EncAt (w7.heap.size) (w7.alloc (.cells #[txt p0, txt q0] 24)) p0 q0 := ⟨by go_simp, by go_simp, by go_simp, by go_simp⟩
      have EA : Ext w7 (w7.alloc (.cells #[txt p0, txt q0] 24)) := extA
      replace A' := A'.ext EA
      replace B' := B'.ext EA
      replace N' := N'.ext EA
      replace F' := F'.ext EA
      replace E := E.trans EA
      clear EA
      go_wp2_with fail
      clear A0 A1 A2 A3 zA B0 B1 B2 B3 zB N0 N1 N2 N3 zN F0 F1 F2 F3 zF
      have A := A'
      clear A'
      have B := B'
      clear B'
      have N := N'
      clear N'
      have F := F'
      clear F'
      obtain ⟨bC, hbC⟩ : ∃ b, b = w7.heap.size := ⟨_, rfl⟩
      rw [← hbC] at C  ⊢
      generalize (w7.alloc (.cells #[txt p0, txt q0] 24)) = w8 at A B N F C E ⊢
      clear hbC
      refine (Y0.out _ E).mono ?_
      clear Y0
      rintro e w9 ⟨rfl, hE⟩
      replace E := E.trans hE
      replace A := A.ext hE
      replace B := B.ext hE
      replace N := N.ext hE
      replace F := F.ext hE
      replace C := C.ext hE
      clear hE
      have A' := A
      have B' := B
      have N' := N
      have F' := F
      have C' := C
      obtain ⟨A0, A1, A2, A3⟩ := A
      have zA := cell_lt A0
      dsimp only at zA
      obtain ⟨B0, B1, B2, B3⟩ := B
      have zB := cell_lt B0
      dsimp only at zB
      obtain ⟨N0, N1, N2, N3⟩ := N
      have zN := cell_lt N0
      dsimp only at zN
      obtain ⟨F0, F1, F2, F3⟩ := F
      have zF := cell_lt F0
      dsimp only at zF
      obtain ⟨C0, C1, C2, C3⟩ := C
      have zC := cell_lt C0
      dsimp only at zC
      have D : EncAt (w9.heap.size) (w9.alloc (.cells #[txt r0, txt s0] 24)) r0 s0 := ⟨by go_simp, by go_simp, by go_simp, by go_simp⟩
      have EA : Ext w9 (w9.alloc (.cells #[txt r0, txt s0] 24)) := extA
      replace A' := A'.ext EA
      replace B' := B'.ext EA
      replace N' := N'.ext EA
      replace F' := F'.ext EA
      replace C' := C'.ext EA
      replace E := E.trans EA
      clear EA
      go_wp2_with fail
      clear A0 A1 A2 A3 zA B0 B1 B2 B3 zB N0 N1 N2 N3 zN F0 F1 F2 F3 zF C0 C1 C2 C3 zC
      have A := A'
      clear A'
      have B := B'
      clear B'
      have N := N'
      clear N'
      have F := F'
      clear F'
      have C := C'
      clear C'
      obtain ⟨bD, hbD⟩ : ∃ b, b = w9.heap.size := ⟨_, rfl⟩
      rw [← hbD] at D  ⊢
      generalize (w9.alloc (.cells #[txt r0, txt s0] 24)) = w10 at A B N F C D E ⊢
      clear hbD
      refine (C0.out _ E).mono ?_
      clear C0
      rintro e w11 ⟨rfl, hE⟩
      replace E := E.trans hE
      replace A := A.ext hE
      replace B := B.ext hE
      replace N := N.ext hE
      replace F := F.ext hE
      replace C := C.ext hE
      replace D := D.ext hE
      clear hE
      clear C D
      have A' := A
      have B' := B
      have N' := N
      have F' := F
      obtain ⟨A0, A1, A2, A3⟩ := A
      have zA := cell_lt A0
      dsimp only at zA
      obtain ⟨B0, B1, B2, B3⟩ := B
      have zB := cell_lt B0
      dsimp only at zB
      obtain ⟨N0, N1, N2, N3⟩ := N
      have zN := cell_lt N0
      dsimp only at zN
      obtain ⟨F0, F1, F2, F3⟩ := F
      have zF := cell_lt F0
      dsimp only at zF
      go_wp2_with fail
      clear A0 A1 A2 A3 zA B0 B1 B2 B3 zB N0 N1 N2 N3 zN F0 F1 F2 F3 zF
      have A := A'
      clear A'
      have B := B'
      clear B'
      have N := N'
      clear N'
      have F := F'
      clear F'
      rw [rounds_succ]
      have A' := A
      have B' := B
      have N' := N
      have F' := F
      obtain ⟨A0, A1, A2, A3⟩ := A
      have zA := cell_lt A0
      dsimp only at zA
      obtain ⟨B0, B1, B2, B3⟩ := B
      have zB := cell_lt B0
      dsimp only at zB
      obtain ⟨N0, N1, N2, N3⟩ := N
      have zN := cell_lt N0
      dsimp only at zN
      obtain ⟨F0, F1, F2, F3⟩ := F
      have zF := cell_lt F0
      dsimp only at zF
      go_wp2_with fail
      clear A0 A1 A2 A3 zA B0 B1 B2 B3 zB N0 N1 N2 N3 zN F0 F1 F2 F3 zF
      have A := A'
      clear A'
      have B := B'
      clear B'
      have N := N'
      clear N'
      have F := F'
      clear F'
      refine (X1.out _ E).mono ?_
      clear X1
      rintro e w12 ⟨rfl, hE⟩
      replace E := E.trans hE
      replace A := A.ext hE
      replace B := B.ext hE
      replace N := N.ext hE
      replace F := F.ext hE
      clear hE
      have A' := A
      have B' := B
      have N' := N
      have F' := F
      obtain ⟨A0, A1, A2, A3⟩ := A
      have zA := cell_lt A0
      dsimp only at zA
      obtain ⟨B0, B1, B2, B3⟩ := B
      have zB := cell_lt B0
      dsimp only at zB
      obtain ⟨N0, N1, N2, N3⟩ := N
      have zN := cell_lt N0
      dsimp only at zN
      obtain ⟨F0, F1, F2, F3⟩ := F
      have zF := cell_lt F0
      dsimp only at zF
      have C : EncAt (w12.heap.size) (w12.alloc (.cells #[txt p1, txt q1] 24)) p1 q1 := ⟨by go_simp, by go_simp, by go_simp, by go_simp⟩
      have EA : Ext w12 (w12.alloc (.cells #[txt p1, txt q1] 24)) := extA
      replace A' := A'.ext EA
      replace B' := B'.ext EA
      replace N' := N'.ext EA
      replace F' := F'.ext EA
      replace E := E.trans EA
      clear EA
      go_wp2_with fail
      clear A0 A1 A2 A3 zA B0 B1 B2 B3 zB N0 N1 N2 N3 zN F0 F1 F2 F3 zF
      have A := A'
      clear A'
      have B := B'
      clear B'
      have N := N'
      clear N'
      have F := F'
      clear F'
      obtain ⟨bC, hbC⟩ : ∃ b, b = w12.heap.size := ⟨_, rfl⟩
      rw [← hbC] at C  ⊢
      generalize (w12.alloc (.cells #[txt p1, txt q1] 24)) = w13 at A B N F C E ⊢
      clear hbC
      refine (Y1.out _ E).mono ?_
      clear Y1
      rintro e w14 ⟨rfl, hE⟩
      replace E := E.trans hE
      replace A := A.ext hE
      replace B := B.ext hE
      replace N := N.ext hE
      replace F := F.ext hE
      replace C := C.ext hE
      clear hE
      have A' := A
      have B' := B
      have N' := N
      have F' := F
      have C' := C
      obtain ⟨A0, A1, A2, A3⟩ := A
      have zA := cell_lt A0
      dsimp only at zA
      obtain ⟨B0, B1, B2, B3⟩ := B
      have zB := cell_lt B0
      dsimp only at zB
      obtain ⟨N0, N1, N2, N3⟩ := N
      have zN := cell_lt N0
      dsimp only at zN
      obtain ⟨F0, F1, F2, F3⟩ := F
      have zF := cell_lt F0
      dsimp only at zF
      obtain ⟨C0, C1, C2, C3⟩ := C
      have zC := cell_lt C0
      dsimp only at zC
      have D : EncAt (w14.heap.size) (w14.alloc (.cells #[txt r1, txt s1] 24)) r1 s1 := ⟨by go_simp, by go_simp, by go_simp, by go_simp⟩
      have EA : Ext w14 (w14.alloc (.cells #[txt r1, txt s1] 24)) := extA
      replace A' := A'.ext EA
      replace B' := B'.ext EA
      replace N' := N'.ext EA
      replace F' := F'.ext EA
      replace C' := C'.ext EA
      replace E := E.trans EA
      clear EA
      go_wp2_with fail
      clear A0 A1 A2 A3 zA B0 B1 B2 B3 zB N0 N1 N2 N3 zN F0 F1 F2 F3 zF C0 C1 C2 C3 zC
      have A := A'
      clear A'
      have B := B'
      clear B'
      have N := N'
      clear N'
      have F := F'
      clear F'
      have C := C'
      clear C'
      obtain ⟨bD, hbD⟩ : ∃ b, b = w14.heap.size := ⟨_, rfl⟩
      rw [← hbD] at D  ⊢
      generalize (w14.alloc (.cells #[txt r1, txt s1] 24)) = w15 at A B N F C D E ⊢
      clear hbD
      refine (C1.out _ E).mono ?_
      clear C1
      rintro e w16 ⟨rfl, hE⟩
      replace E := E.trans hE
      replace A := A.ext hE
      replace B := B.ext hE
      replace N := N.ext hE
      replace F := F.ext hE
      replace C := C.ext hE
      replace D := D.ext hE
      clear hE
      clear C D
      have A' := A
      have B' := B
      have N' := N
      have F' := F
      obtain ⟨A0, A1, A2, A3⟩ := A
      have zA := cell_lt A0
      dsimp only at zA
      obtain ⟨B0, B1, B2, B3⟩ := B
      have zB := cell_lt B0
      dsimp only at zB
      obtain ⟨N0, N1, N2, N3⟩ := N
      have zN := cell_lt N0
      dsimp only at zN
      obtain ⟨F0, F1, F2, F3⟩ := F
      have zF := cell_lt F0
      dsimp only at zF
      go_wp2_with fail
      clear A0 A1 A2 A3 zA B0 B1 B2 B3 zB N0 N1 N2 N3 zN F0 F1 F2 F3 zF
      have A := A'
      clear A'
      have B := B'
      clear B'
      have N := N'
      clear N'
      have F := F'
      clear F'
      rw [rounds_succ]
      have A' := A
      have B' := B
      have N' := N
      have F' := F
      obtain ⟨A0, A1, A2, A3⟩ := A
      have zA := cell_lt A0
      dsimp only at zA
      obtain ⟨B0, B1, B2, B3⟩ := B
      have zB := cell_lt B0
      dsimp only at zB
      obtain ⟨N0, N1, N2, N3⟩ := N
      have zN := cell_lt N0
      dsimp only at zN
      obtain ⟨F0, F1, F2, F3⟩ := F
      have zF := cell_lt F0
      dsimp only at zF
      go_wp2_with fail
      clear A0 A1 A2 A3 zA B0 B1 B2 B3 zB N0 N1 N2 N3 zN F0 F1 F2 F3 zF
      have A := A'
      clear A'
      have B := B'
      clear B'
      have N := N'
      clear N'
      have F := F'
      clear F'
      refine (X2.out _ E).mono ?_
      clear X2
      rintro e w17 ⟨rfl, hE⟩
      replace E := E.trans hE
      replace A := A.ext hE
      replace B := B.ext hE
      replace N := N.ext hE
      replace F := F.ext hE
      clear hE
      have A' := A
      have B' := B
      have N' := N
      have F' := F
      obtain ⟨A0, A1, A2, A3⟩ := A
      have zA := cell_lt A0
      dsimp only at zA
      obtain ⟨B0, B1, B2, B3⟩ := B
      have zB := cell_lt B0
      dsimp only at zB
      obtain ⟨N0, N1, N2, N3⟩ := N
      have zN := cell_lt N0
      dsimp only at zN
      obtain ⟨F0, F1, F2, F3⟩ := F
      have zF := cell_lt F0
      dsimp only at zF
      have C : EncAt (w17.heap.size) (w17.alloc (.cells #[txt p2, txt q2] 24)) p2 q2 := ⟨by go_simp, by go_simp, by go_simp, by go_simp⟩
      have EA : Ext w17 (w17.alloc (.cells #[txt p2, txt q2] 24)) := extA
      replace A' := A'.ext EA
      replace B' := B'.ext EA
      replace N' := N'.ext EA
      replace F' := F'.ext EA
      replace E := E.trans EA
      clear EA
      go_wp2_with fail
      clear A0 A1 A2 A3 zA B0 B1 B2 B3 zB N0 N1 N2 N3 zN F0 F1 F2 F3 zF
      have A := A'
      clear A'
      have B := B'
      clear B'
      have N := N'
      clear N'
      have F := F'
      clear F'
      obtain ⟨bC, hbC⟩ : ∃ b, b = w17.heap.size := ⟨_, rfl⟩
      rw [← hbC] at C  ⊢
      generalize (w17.alloc (.cells #[txt p2, txt q2] 24)) = w18 at A B N F C E ⊢
      clear hbC
      refine (Y2.out _ E).mono ?_
      clear Y2
      rintro e w19 ⟨rfl, hE⟩
      replace E := E.trans hE
      replace A := A.ext hE
      replace B := B.ext hE
      replace N := N.ext hE
      replace F := F.ext hE
      replace C := C.ext hE
      clear hE
      have A' := A
      have B' := B
      have N' := N
      have F' := F
      have C' := C
      obtain ⟨A0, A1, A2, A3⟩ := A
      have zA := cell_lt A0
      dsimp only at zA
      obtain ⟨B0, B1, B2, B3⟩ := B
      have zB := cell_lt B0
      dsimp only at zB
      obtain ⟨N0, N1, N2, N3⟩ := N
      have zN := cell_lt N0
      dsimp only at zN
      obtain ⟨F0, F1, F2, F3⟩ := F
      have zF := cell_lt F0
      dsimp only at zF
      obtain ⟨C0, C1, C2, C3⟩ := C
      have zC := cell_lt C0
      dsimp only at zC
      have D : EncAt (w19.heap.size) (w19.alloc (.cells #[txt r2, txt s2] 24)) r2 s2 := ⟨by go_simp, by go_simp, by go_simp, by go_simp⟩
      have EA : Ext w19 (w19.alloc (.cells #[txt r2, txt s2] 24)) := extA
      replace A' := A'.ext EA
      replace B' := B'.ext EA
      replace N' := N'.ext EA
      replace F' := F'.ext EA
      replace C' := C'.ext EA
      replace E := E.trans EA
      clear EA
      go_wp2_with fail
      clear A0 A1 A2 A3 zA B0 B1 B2 B3 zB N0 N1 N2 N3 zN F0 F1 F2 F3 zF C0 C1 C2 C3 zC
      have A := A'
      clear A'
      have B := B'
      clear B'
      have N := N'
      clear N'
      have F := F'
      clear F'
      have C := C'
      clear C'
      obtain ⟨bD, hbD⟩ : ∃ b, b = w19.heap.size := ⟨_, rfl⟩
      rw [← hbD] at D  ⊢
      generalize (w19.alloc (.cells #[txt r2, txt s2] 24)) = w20 at A B N F C D E ⊢
      clear hbD
      refine (C2.out _ E).mono ?_
      clear C2
      rintro e w21 ⟨rfl, hE⟩
      replace E := E.trans hE
      replace A := A.ext hE
      replace B := B.ext hE
      replace N := N.ext hE
      replace F := F.ext hE
      replace C := C.ext hE
      replace D := D.ext hE
      clear hE
      clear C D
      have A' := A
      have B' := B
      have N' := N
      have F' := F
      obtain ⟨A0, A1, A2, A3⟩ := A
      have zA := cell_lt A0
      dsimp only at zA
      obtain ⟨B0, B1, B2, B3⟩ := B
      have zB := cell_lt B0
      dsimp only at zB
      obtain ⟨N0, N1, N2, N3⟩ := N
      have zN := cell_lt N0
      dsimp only at zN
      obtain ⟨F0, F1, F2, F3⟩ := F
      have zF := cell_lt F0
      dsimp only at zF
      go_wp2_with fail
      clear A0 A1 A2 A3 zA B0 B1 B2 B3 zB N0 N1 N2 N3 zN F0 F1 F2 F3 zF
      have A := A'
      clear A'
      have B := B'
      clear B'
      have N := N'
      clear N'
      have F := F'
      clear F'
      rw [rounds_succ]
      have A' := A
      have B' := B
      have N' := N
      have F' := F
      obtain ⟨A0, A1, A2, A3⟩ := A
      have zA := cell_lt A0
      dsimp only at zA
      obtain ⟨B0, B1, B2, B3⟩ := B
      have zB := cell_lt B0
      dsimp only at zB
      obtain ⟨N0, N1, N2, N3⟩ := N
      have zN := cell_lt N0
      dsimp only at zN
      obtain ⟨F0, F1, F2, F3⟩ := F
      have zF := cell_lt F0
      dsimp only at zF
      go_wp2_with fail
      clear A0 A1 A2 A3 zA B0 B1 B2 B3 zB N0 N1 N2 N3 zN F0 F1 F2 F3 zF
      have A := A'
      clear A'
      have B := B'
      clear B'
      have N := N'
      clear N'
      have F := F'
      clear F'
      refine (X3.out _ E).mono ?_
      clear X3
      rintro e w22 ⟨rfl, hE⟩
      replace E := E.trans hE
      replace A := A.ext hE
      replace B := B.ext hE
      replace N := N.ext hE
      replace F := F.ext hE
      clear hE
      have A' := A
      have B' := B
      have N' := N
      have F' := F
      obtain ⟨A0, A1, A2, A3⟩ := A
      have zA := cell_lt A0
      dsimp only at zA
      obtain ⟨B0, B1, B2, B3⟩ := B
      have zB := cell_lt B0
      dsimp only at zB
      obtain ⟨N0, N1, N2, N3⟩ := N
      have zN := cell_lt N0
      dsimp only at zN
      obtain ⟨F0, F1, F2, F3⟩ := F
      have zF := cell_lt F0
      dsimp only at zF
      have C : EncAt (w22.heap.size) (w22.alloc (.cells #[txt p3, txt q3] 24)) p3 q3 := ⟨by go_simp, by go_simp, by go_simp, by go_simp⟩
      have EA : Ext w22 (w22.alloc (.cells #[txt p3, txt q3] 24)) := extA
      replace A' := A'.ext EA
      replace B' := B'.ext EA
      replace N' := N'.ext EA
      replace F' := F'.ext EA
      replace E := E.trans EA
      clear EA
      go_wp2_with fail
      clear A0 A1 A2 A3 zA B0 B1 B2 B3 zB N0 N1 N2 N3 zN F0 F1 F2 F3 zF
      have A := A'
      clear A'
      have B := B'
      clear B'
      have N := N'
      clear N'
      have F := F'
      clear F'
      obtain ⟨bC, hbC⟩ : ∃ b, b = w22.heap.size := ⟨_, rfl⟩
      rw [← hbC] at C  ⊢
      generalize (w22.alloc (.cells #[txt p3, txt q3] 24)) = w23 at A B N F C E ⊢
      clear hbC
      refine (Y3.out _ E).mono ?_
      clear Y3
      rintro e w24 ⟨rfl, hE⟩
      replace E := E.trans hE
      replace A := A.ext hE
      replace B := B.ext hE
      replace N := N.ext hE
      replace F := F.ext hE
      replace C := C.ext hE
      clear hE
      have A' := A
      have B' := B
      have N' := N
      have F' := F
      have C' := C
      obtain ⟨A0, A1, A2, A3⟩ := A
      have zA := cell_lt A0
      dsimp only at zA
      obtain ⟨B0, B1, B2, B3⟩ := B
      have zB := cell_lt B0
      dsimp only at zB
      obtain ⟨N0, N1, N2, N3⟩ := N
      have zN := cell_lt N0
      dsimp only at zN
      obtain ⟨F0, F1, F2, F3⟩ := F
      have zF := cell_lt F0
      dsimp only at zF
      obtain ⟨C0, C1, C2, C3⟩ := C
      have zC := cell_lt C0
      dsimp only at zC
      have D : EncAt (w24.heap.size) (w24.alloc (.cells #[txt r3, txt s3] 24)) r3 s3 := ⟨by go_simp, by go_simp, by go_simp, by go_simp⟩
      have EA : Ext w24 (w24.alloc (.cells #[txt r3, txt s3] 24)) := extA
      replace A' := A'.ext EA
      replace B' := B'.ext EA
      replace N' := N'.ext EA
      replace F' := F'.ext EA
      replace C' := C'.ext EA
      replace E := E.trans EA
      clear EA
      go_wp2_with fail
      clear A0 A1 A2 A3 zA B0 B1 B2 B3 zB N0 N1 N2 N3 zN F0 F1 F2 F3 zF C0 C1 C2 C3 zC
      have A := A'
      clear A'
      have B := B'
      clear B'
      have N := N'
      clear N'
      have F := F'
      clear F'
      have C := C'
      clear C'
      obtain ⟨bD, hbD⟩ : ∃ b, b = w24.heap.size := ⟨_, rfl⟩
      rw [← hbD] at D  ⊢
      generalize (w24.alloc (.cells #[txt r3, txt s3] 24)) = w25 at A B N F C D E ⊢
      clear hbD
      refine (C3.out _ E).mono ?_
      clear C3
      rintro e w26 ⟨rfl, hE⟩
      replace E := E.trans hE
      replace A := A.ext hE
      replace B := B.ext hE
      replace N := N.ext hE
      replace F := F.ext hE
      replace C := C.ext hE
      replace D := D.ext hE
      clear hE
      clear C D
      have A' := A
      have B' := B
      have N' := N
      have F' := F
      obtain ⟨A0, A1, A2, A3⟩ := A
      have zA := cell_lt A0
      dsimp only at zA
      obtain ⟨B0, B1, B2, B3⟩ := B
      have zB := cell_lt B0
      dsimp only at zB
      obtain ⟨N0, N1, N2, N3⟩ := N
      have zN := cell_lt N0
      dsimp only at zN
      obtain ⟨F0, F1, F2, F3⟩ := F
      have zF := cell_lt F0
      dsimp only at zF
      go_wp2_with fail
      clear A0 A1 A2 A3 zA B0 B1 B2 B3 zB N0 N1 N2 N3 zN F0 F1 F2 F3 zF
      have A := A'
      clear A'
      have B := B'
      clear B'
      have N := N'
      clear N'
      have F := F'
      clear F'
      rw [rounds_succ]
      have A' := A
      have B' := B
      have N' := N
      have F' := F
      obtain ⟨A0, A1, A2, A3⟩ := A
      have zA := cell_lt A0
      dsimp only at zA
      obtain ⟨B0, B1, B2, B3⟩ := B
      have zB := cell_lt B0
      dsimp only at zB
      obtain ⟨N0, N1, N2, N3⟩ := N
      have zN := cell_lt N0
      dsimp only at zN
      obtain ⟨F0, F1, F2, F3⟩ := F
      have zF := cell_lt F0
      dsimp only at zF
      go_wp2_with fail
      clear A0 A1 A2 A3 zA B0 B1 B2 B3 zB N0 N1 N2 N3 zN F0 F1 F2 F3 zF
      have A := A'
      clear A'
      have B := B'
      clear B'
      have N := N'
      clear N'
      have F := F'
      clear F'
      refine (HA.out _ E).mono ?_
      rintro e w27 ⟨rfl, hE⟩
      replace E := E.trans hE
      replace A := A.ext hE
      replace B := B.ext hE
      replace N := N.ext hE
      replace F := F.ext hE
      clear hE
      go_wp2_with fail
      go_ret
      exact ⟨rfl, E⟩
    · have hcy := hsame hcx
      have hn0 : (cx == 0) = false := by rw [beq_eq_false_iff_ne]; exact hcx
      subst hcy
      clear hsame
      have A' := A
      have B' := B
      have N' := N
      obtain ⟨A0, A1, A2, A3⟩ := A
      have zA := cell_lt A0
      dsimp only at zA
      obtain ⟨B0, B1, B2, B3⟩ := B
      have zB := cell_lt B0
      dsimp only at zB
      obtain ⟨N0, N1, N2, N3⟩ := N
      have zN := cell_lt N0
      dsimp only at zN
      have F : ValsAt (w5.heap.size) (w5.alloc (.cells #[.func (.func 20) #[] #[], .func (.func 22) #[] #[], .func (.func 24) #[] #[], .func (.func 30) #[] #[]] 36)) (.func (.func 20) #[] #[]) (.func (.func 22) #[] #[]) (.func (.func 24) #[] #[]) (.func (.func 30) #[] #[]) := ⟨by go_simp, by go_simp, by go_simp, by go_simp⟩
      have EA : Ext w5 (w5.alloc (.cells #[.func (.func 20) #[] #[], .func (.func 22) #[] #[], .func (.func 24) #[] #[], .func (.func 30) #[] #[]] 36)) := extA
      replace A' := A'.ext EA
      replace B' := B'.ext EA
      replace N' := N'.ext EA
      replace E := E.trans EA
      clear EA
      go_wp2
      clear A0 A1 A2 A3 zA B0 B1 B2 B3 zB N0 N1 N2 N3 zN
      have A := A'
      clear A'
      have B := B'
      clear B'
      have N := N'
      clear N'
      obtain ⟨bF, hbF⟩ : ∃ b, b = w5.heap.size := ⟨_, rfl⟩
      rw [← hbF] at F  ⊢
      generalize (w5.alloc (.cells #[.func (.func 20) #[] #[], .func (.func 22) #[] #[], .func (.func 24) #[] #[], .func (.func 30) #[] #[]] 36)) = w6 at A B N F E ⊢
      clear hbF
      refine wp_loop_rounds 5 ?_
      rw [rounds_succ]
      have A' := A
      have B' := B
      have N' := N
      have F' := F
      obtain ⟨A0, A1, A2, A3⟩ := A
      have zA := cell_lt A0
      dsimp only at zA
      obtain ⟨B0, B1, B2, B3⟩ := B
      have zB := cell_lt B0
      dsimp only at zB
      obtain ⟨N0, N1, N2, N3⟩ := N
      have zN := cell_lt N0
      dsimp only at zN
      obtain ⟨F0, F1, F2, F3⟩ := F
      have zF := cell_lt F0
      dsimp only at zF
      go_wp2_with fail
      clear A0 A1 A2 A3 zA B0 B1 B2 B3 zB N0 N1 N2 N3 zN F0 F1 F2 F3 zF
      have A := A'
      clear A'
      have B := B'
      clear B'
      have N := N'
      clear N'
      have F := F'
      clear F'
      refine (X0.out _ E).mono ?_
      clear X0
      rintro e w7 ⟨rfl, hE⟩
      replace E := E.trans hE
      replace A := A.ext hE
      replace B := B.ext hE
      replace N := N.ext hE
      replace F := F.ext hE
      clear hE
      have A' := A
      have B' := B
      have N' := N
      have F' := F
      obtain ⟨A0, A1, A2, A3⟩ := A
      have zA := cell_lt A0
      dsimp only at zA
      obtain ⟨B0, B1, B2, B3⟩ := B
      have zB := cell_lt B0
      dsimp only at zB
      obtain ⟨N0, N1, N2, N3⟩ := N
      have zN := cell_lt N0
      dsimp only at zN
      obtain ⟨F0, F1, F2, F3⟩ := F
      have zF := cell_lt F0
      dsimp only at zF
      have C : EncAt (w7.heap.size) (w7.alloc (.cells #[txt p0, txt q0] 24)) p0 q0 := ⟨by go_simp, by go_simp, by go_simp, by go_simp⟩
      have EA : Ext w7 (w7.alloc (.cells #[txt p0, txt q0] 24)) := extA
      replace A' := A'.ext EA
      replace B' := B'.ext EA
      replace N' := N'.ext EA
      replace F' := F'.ext EA
      replace E := E.trans EA
      clear EA
      go_wp2_with fail
      clear A0 A1 A2 A3 zA B0 B1 B2 B3 zB N0 N1 N2 N3 zN F0 F1 F2 F3 zF
      have A := A'
      clear A'
      have B := B'
      clear B'
      have N := N'
      clear N'
      have F := F'
      clear F'
      obtain ⟨bC, hbC⟩ : ∃ b, b = w7.heap.size := ⟨_, rfl⟩
      rw [← hbC] at C  ⊢
      generalize (w7.alloc (.cells #[txt p0, txt q0] 24)) = w8 at A B N F C E ⊢
      clear hbC
      refine (Y0.out _ E).mono ?_
      clear Y0
      rintro e w9 ⟨rfl, hE⟩
      replace E := E.trans hE
      replace A := A.ext hE
      replace B := B.ext hE
      replace N := N.ext hE
      replace F := F.ext hE
      replace C := C.ext hE
      clear hE
      have A' := A
      have B' := B
      have N' := N
      have F' := F
      have C' := C
      obtain ⟨A0, A1, A2, A3⟩ := A
      have zA := cell_lt A0
      dsimp only at zA
      obtain ⟨B0, B1, B2, B3⟩ := B
      have zB := cell_lt B0
      dsimp only at zB
      obtain ⟨N0, N1, N2, N3⟩ := N
      have zN := cell_lt N0
      dsimp only at zN
      obtain ⟨F0, F1, F2, F3⟩ := F
      have zF := cell_lt F0
      dsimp only at zF
      obtain ⟨C0, C1, C2, C3⟩ := C
      have zC := cell_lt C0
      dsimp only at zC
      have D : EncAt (w9.heap.size) (w9.alloc (.cells #[txt r0, txt s0] 24)) r0 s0 := ⟨by go_simp, by go_simp, by go_simp, by go_simp⟩
      have EA : Ext w9 (w9.alloc (.cells #[txt r0, txt s0] 24)) := extA
      replace A' := A'.ext EA
      replace B' := B'.ext EA
      replace N' := N'.ext EA
      replace F' := F'.ext EA
      replace C' := C'.ext EA
      replace E := E.trans EA
      clear EA
      go_wp2_with fail
      clear A0 A1 A2 A3 zA B0 B1 B2 B3 zB N0 N1 N2 N3 zN F0 F1 F2 F3 zF C0 C1 C2 C3 zC
      have A := A'
      clear A'
      have B := B'
      clear B'
      have N := N'
      clear N'
      have F := F'
      clear F'
      have C := C'
      clear C'
      obtain ⟨bD, hbD⟩ : ∃ b, b = w9.heap.size := ⟨_, rfl⟩
      rw [← hbD] at D  ⊢
      generalize (w9.alloc (.cells #[txt r0, txt s0] 24)) = w10 at A B N F C D E ⊢
      clear hbD
      refine (C0.out _ E).mono ?_
      clear C0
      rintro e w11 ⟨rfl, hE⟩
      replace E := E.trans hE
      replace A := A.ext hE
      replace B := B.ext hE
      replace N := N.ext hE
      replace F := F.ext hE
      replace C := C.ext hE
      replace D := D.ext hE
      clear hE
      clear C D
      have A' := A
      have B' := B
      have N' := N
      have F' := F
      obtain ⟨A0, A1, A2, A3⟩ := A
      have zA := cell_lt A0
      dsimp only at zA
      obtain ⟨B0, B1, B2, B3⟩ := B
      have zB := cell_lt B0
      dsimp only at zB
      obtain ⟨N0, N1, N2, N3⟩ := N
      have zN := cell_lt N0
      dsimp only at zN
      obtain ⟨F0, F1, F2, F3⟩ := F
      have zF := cell_lt F0
      dsimp only at zF
      go_wp2_with fail
      clear A0 A1 A2 A3 zA B0 B1 B2 B3 zB N0 N1 N2 N3 zN F0 F1 F2 F3 zF
      have A := A'
      clear A'
      have B := B'
      clear B'
      have N := N'
      clear N'
      have F := F'
      clear F'
      rw [rounds_succ]
      have A' := A
      have B' := B
      have N' := N
      have F' := F
      obtain ⟨A0, A1, A2, A3⟩ := A
      have zA := cell_lt A0
      dsimp only at zA
      obtain ⟨B0, B1, B2, B3⟩ := B
      have zB := cell_lt B0
      dsimp only at zB
      obtain ⟨N0, N1, N2, N3⟩ := N
      have zN := cell_lt N0
      dsimp only at zN
      obtain ⟨F0, F1, F2, F3⟩ := F
      have zF := cell_lt F0
      dsimp only at zF
      go_wp2_with fail
      clear A0 A1 A2 A3 zA B0 B1 B2 B3 zB N0 N1 N2 N3 zN F0 F1 F2 F3 zF
      have A := A'
      clear A'
      have B := B'
      clear B'
      have N := N'
      clear N'
      have F := F'
      clear F'
      refine (X1.out _ E).mono ?_
      clear X1
      rintro e w12 ⟨rfl, hE⟩
      replace E := E.trans hE
      replace A := A.ext hE
      replace B := B.ext hE
      replace N := N.ext hE
      replace F := F.ext hE
      clear hE
      have A' := A
      have B' := B
      have N' := N
      have F' := F
      obtain ⟨A0, A1, A2, A3⟩ := A
      have zA := cell_lt A0
      dsimp only at zA
      obtain ⟨B0, B1, B2, B3⟩ := B
      have zB := cell_lt B0
      dsimp only at zB
      obtain ⟨N0, N1, N2, N3⟩ := N
      have zN := cell_lt N0
      dsimp only at zN
      obtain ⟨F0, F1, F2, F3⟩ := F
      have zF := cell_lt F0
      dsimp only at zF
      have C : EncAt (w12.heap.size) (w12.alloc (.cells #[txt p1, txt q1] 24)) p1 q1 := ⟨by go_simp, by go_simp, by go_simp, by go_simp⟩
      have EA : Ext w12 (w12.alloc (.cells #[txt p1, txt q1] 24)) := extA
      replace A' := A'.ext EA
      replace B' := B'.ext EA
      replace N' := N'.ext EA
      replace F' := F'.ext EA
      replace E := E.trans EA
      clear EA
      go_wp2_with fail
      clear A0 A1 A2 A3 zA B0 B1 B2 B3 zB N0 N1 N2 N3 zN F0 F1 F2 F3 zF
      have A := A'
      clear A'
      have B := B'
      clear B'
      have N := N'
      clear N'
      have F := F'
      clear F'
      obtain ⟨bC, hbC⟩ : ∃ b, b = w12.heap.size := ⟨_, rfl⟩
      rw [← hbC] at C  ⊢
      generalize (w12.alloc (.cells #[txt p1, txt q1] 24)) = w13 at A B N F C E ⊢
      clear hbC
      refine (Y1.out _ E).mono ?_
      clear Y1
      rintro e w14 ⟨rfl, hE⟩
      replace E := E.trans hE
      replace A := A.ext hE
      replace B := B.ext hE
      replace N := N.ext hE
      replace F := F.ext hE
      replace C := C.ext hE
      clear hE
      have A' := A
      have B' := B
      have N' := N
      have F' := F
      have C' := C
      obtain ⟨A0, A1, A2, A3⟩ := A
      have zA := cell_lt A0
      dsimp only at zA
      obtain ⟨B0, B1, B2, B3⟩ := B
      have zB := cell_lt B0
      dsimp only at zB
      obtain ⟨N0, N1, N2, N3⟩ := N
      have zN := cell_lt N0
      dsimp only at zN
      obtain ⟨F0, F1, F2, F3⟩ := F
      have zF := cell_lt F0
      dsimp only at zF
      obtain ⟨C0, C1, C2, C3⟩ := C
      have zC := cell_lt C0
      dsimp only at zC
      have D : EncAt (w14.heap.size) (w14.alloc (.cells #[txt r1, txt s1] 24)) r1 s1 := ⟨by go_simp, by go_simp, by go_simp, by go_simp⟩
      have EA : Ext w14 (w14.alloc (.cells #[txt r1, txt s1] 24)) := extA
      replace A' := A'.ext EA
      replace B' := B'.ext EA
      replace N' := N'.ext EA
      replace F' := F'.ext EA
      replace C' := C'.ext EA
      replace E := E.trans EA
      clear EA
      go_wp2_with fail
      clear A0 A1 A2 A3 zA B0 B1 B2 B3 zB N0 N1 N2 N3 zN F0 F1 F2 F3 zF C0 C1 C2 C3 zC
      have A := A'
      clear A'
      have B := B'
      clear B'
      have N := N'
      clear N'
      have F := F'
      clear F'
      have C := C'
      clear C'
      obtain ⟨bD, hbD⟩ : ∃ b, b = w14.heap.size := ⟨_, rfl⟩
      rw [← hbD] at D  ⊢
      generalize (w14.alloc (.cells #[txt r1, txt s1] 24)) = w15 at A B N F C D E ⊢
      clear hbD
      refine (C1.out _ E).mono ?_
      clear C1
      rintro e w16 ⟨rfl, hE⟩
      replace E := E.trans hE
      replace A := A.ext hE
      replace B := B.ext hE
      replace N := N.ext hE
      replace F := F.ext hE
      replace C := C.ext hE
      replace D := D.ext hE
      clear hE
      clear C D
      have A' := A
      have B' := B
      have N' := N
      have F' := F
      obtain ⟨A0, A1, A2, A3⟩ := A
      have zA := cell_lt A0
      dsimp only at zA
      obtain ⟨B0, B1, B2, B3⟩ := B
      have zB := cell_lt B0
      dsimp only at zB
      obtain ⟨N0, N1, N2, N3⟩ := N
      have zN := cell_lt N0
      dsimp only at zN
      obtain ⟨F0, F1, F2, F3⟩ := F
      have zF := cell_lt F0
      dsimp only at zF
      go_wp2_with fail
      clear A0 A1 A2 A3 zA B0 B1 B2 B3 zB N0 N1 N2 N3 zN F0 F1 F2 F3 zF
      have A := A'
      clear A'
      have B := B'
      clear B'
      have N := N'
      clear N'
      have F := F'
      clear F'
      rw [rounds_succ]
      have A' := A
      have B' := B
      have N' := N
      have F' := F
      obtain ⟨A0, A1, A2, A3⟩ := A
      have zA := cell_lt A0
      dsimp only at zA
      obtain ⟨B0, B1, B2, B3⟩ := B
      have zB := cell_lt B0
      dsimp only at zB
      obtain ⟨N0, N1, N2, N3⟩ := N
      have zN := cell_lt N0
      dsimp only at zN
      obtain ⟨F0, F1, F2, F3⟩ := F
      have zF := cell_lt F0
      dsimp only at zF
      go_wp2_with fail
      clear A0 A1 A2 A3 zA B0 B1 B2 B3 zB N0 N1 N2 N3 zN F0 F1 F2 F3 zF
      have A := A'
      clear A'
      have B := B'
      clear B'
      have N := N'
      clear N'
      have F := F'
      clear F'
      refine (X2.out _ E).mono ?_
      clear X2
      rintro e w17 ⟨rfl, hE⟩
      replace E := E.trans hE
      replace A := A.ext hE
      replace B := B.ext hE
      replace N := N.ext hE
      replace F := F.ext hE
      clear hE
      have A' := A
      have B' := B
      have N' := N
      have F' := F
      obtain ⟨A0, A1, A2, A3⟩ := A
      have zA := cell_lt A0
      dsimp only at zA
      obtain ⟨B0, B1, B2, B3⟩ := B
      have zB := cell_lt B0
      dsimp only at zB
      obtain ⟨N0, N1, N2, N3⟩ := N
      have zN := cell_lt N0
      dsimp only at zN
      obtain ⟨F0, F1, F2, F3⟩ := F
      have zF := cell_lt F0
      dsimp only at zF
      have C : EncAt (w17.heap.size) (w17.alloc (.cells #[txt p2, txt q2] 24)) p2 q2 := ⟨by go_simp, by go_simp, by go_simp, by go_simp⟩
      have EA : Ext w17 (w17.alloc (.cells #[txt p2, txt q2] 24)) := extA
      replace A' := A'.ext EA
      replace B' := B'.ext EA
      replace N' := N'.ext EA
      replace F' := F'.ext EA
      replace E := E.trans EA
      clear EA
      go_wp2_with fail
      clear A0 A1 A2 A3 zA B0 B1 B2 B3 zB N0 N1 N2 N3 zN F0 F1 F2 F3 zF
      have A := A'
      clear A'
      have B := B'
      clear B'
      have N := N'
      clear N'
      have F := F'
      clear F'
      obtain ⟨bC, hbC⟩ : ∃ b, b = w17.heap.size := ⟨_, rfl⟩
      rw [← hbC] at C  ⊢
      generalize (w17.alloc (.cells #[txt p2, txt q2] 24)) = w18 at A B N F C E ⊢
      clear hbC
      refine (Y2.out _ E).mono ?_
      clear Y2
      rintro e w19 ⟨rfl, hE⟩
      replace E := E.trans hE
      replace A := A.ext hE
      replace B := B.ext hE
      replace N := N.ext hE
      replace F := F.ext hE
      replace C := C.ext hE
      clear hE
      have A' := A
      have B' := B
      have N' := N
      have F' := F
      have C' := C
      obtain ⟨A0, A1, A2, A3⟩ := A
      have zA := cell_lt A0
      dsimp only at zA
      obtain ⟨B0, B1, B2, B3⟩ := B
      have zB := cell_lt B0
      dsimp only at zB
      obtain ⟨N0, N1, N2, N3⟩ := N
      have zN := cell_lt N0
      dsimp only at zN
      obtain ⟨F0, F1, F2, F3⟩ := F
      have zF := cell_lt F0
      dsimp only at zF
      obtain ⟨C0, C1, C2, C3⟩ := C
      have zC := cell_lt C0
      dsimp only at zC
      have D : EncAt (w19.heap.size) (w19.alloc (.cells #[txt r2, txt s2] 24)) r2 s2 := ⟨by go_simp, by go_simp, by go_simp, by go_simp⟩
      have EA : Ext w19 (w19.alloc (.cells #[txt r2, txt s2] 24)) := extA
      replace A' := A'.ext EA
      replace B' := B'.ext EA
      replace N' := N'.ext EA
      replace F' := F'.ext EA
      replace C' := C'.ext EA
      replace E := E.trans EA
      clear EA
      go_wp2_with fail
      clear A0 A1 A2 A3 zA B0 B1 B2 B3 zB N0 N1 N2 N3 zN F0 F1 F2 F3 zF C0 C1 C2 C3 zC
      have A := A'
      clear A'
      have B := B'
      clear B'
      have N := N'
      clear N'
      have F := F'
      clear F'
      have C := C'
      clear C'
      obtain ⟨bD, hbD⟩ : ∃ b, b = w19.heap.size := ⟨_, rfl⟩
      rw [← hbD] at D  ⊢
      generalize (w19.alloc (.cells #[txt r2, txt s2] 24)) = w20 at A B N F C D E ⊢
      clear hbD
      refine (C2.out _ E).mono ?_
      clear C2
      rintro e w21 ⟨rfl, hE⟩
      replace E := E.trans hE
      replace A := A.ext hE
      replace B := B.ext hE
      replace N := N.ext hE
      replace F := F.ext hE
      replace C := C.ext hE
      replace D := D.ext hE
      clear hE
      clear C D
      have A' := A
      have B' := B
      have N' := N
      have F' := F
      obtain ⟨A0, A1, A2, A3⟩ := A
      have zA := cell_lt A0
      dsimp only at zA
      obtain ⟨B0, B1, B2, B3⟩ := B
      have zB := cell_lt B0
      dsimp only at zB
      obtain ⟨N0, N1, N2, N3⟩ := N
      have zN := cell_lt N0
      dsimp only at zN
      obtain ⟨F0, F1, F2, F3⟩ := F
      have zF := cell_lt F0
      dsimp only at zF
      go_wp2_with fail
      clear A0 A1 A2 A3 zA B0 B1 B2 B3 zB N0 N1 N2 N3 zN F0 F1 F2 F3 zF
      have A := A'
      clear A'
      have B := B'
      clear B'
      have N := N'
      clear N'
      have F := F'
      clear F'
      rw [rounds_succ]
      have A' := A
      have B' := B
      have N' := N
      have F' := F
      obtain ⟨A0, A1, A2, A3⟩ := A
      have zA := cell_lt A0
      dsimp only at zA
      obtain ⟨B0, B1, B2, B3⟩ := B
      have zB := cell_lt B0
      dsimp only at zB
      obtain ⟨N0, N1, N2, N3⟩ := N
      have zN := cell_lt N0
      dsimp only at zN
      obtain ⟨F0, F1, F2, F3⟩ := F
      have zF := cell_lt F0
      dsimp only at zF
      go_wp2_with fail
      clear A0 A1 A2 A3 zA B0 B1 B2 B3 zB N0 N1 N2 N3 zN F0 F1 F2 F3 zF
      have A := A'
      clear A'
      have B := B'
      clear B'
      have N := N'
      clear N'
      have F := F'
      clear F'
      refine (X3.out _ E).mono ?_
      clear X3
      rintro e w22 ⟨rfl, hE⟩
      replace E := E.trans hE
      replace A := A.ext hE
      replace B := B.ext hE
      replace N := N.ext hE
      replace F := F.ext hE
      clear hE
      have A' := A
      have B' := B
      have N' := N
      have F' := F
      obtain ⟨A0, A1, A2, A3⟩ := A
      have zA := cell_lt A0
      dsimp only at zA
      obtain ⟨B0, B1, B2, B3⟩ := B
      have zB := cell_lt B0
      dsimp only at zB
      obtain ⟨N0, N1, N2, N3⟩ := N
      have zN := cell_lt N0
      dsimp only at zN
      obtain ⟨F0, F1, F2, F3⟩ := F
      have zF := cell_lt F0
      dsimp only at zF
      have C : EncAt (w22.heap.size) (w22.alloc (.cells #[txt p3, txt q3] 24)) p3 q3 := ⟨by go_simp, by go_simp, by go_simp, by go_simp⟩
      have EA : Ext w22 (w22.alloc (.cells #[txt p3, txt q3] 24)) := extA
      replace A' := A'.ext EA
      replace B' := B'.ext EA
      replace N' := N'.ext EA
      replace F' := F'.ext EA
      replace E := E.trans EA
      clear EA
      go_wp2_with fail
      clear A0 A1 A2 A3 zA B0 B1 B2 B3 zB N0 N1 N2 N3 zN F0 F1 F2 F3 zF
      have A := A'
      clear A'
      have B := B'
      clear B'
      have N := N'
      clear N'
      have F := F'
      clear F'
      obtain ⟨bC, hbC⟩ : ∃ b, b = w22.heap.size := ⟨_, rfl⟩
      rw [← hbC] at C  ⊢
      generalize (w22.alloc (.cells #[txt p3, txt q3] 24)) = w23 at A B N F C E ⊢
      clear hbC
      refine (Y3.out _ E).mono ?_
      clear Y3
      rintro e w24 ⟨rfl, hE⟩
      replace E := E.trans hE
      replace A := A.ext hE
      replace B := B.ext hE
      replace N := N.ext hE
      replace F := F.ext hE
      replace C := C.ext hE
      clear hE
      have A' := A
      have B' := B
      have N' := N
      have F' := F
      have C' := C
      obtain ⟨A0, A1, A2, A3⟩ := A
      have zA := cell_lt A0
      dsimp only at zA
      obtain ⟨B0, B1, B2, B3⟩ := B
      have zB := cell_lt B0
      dsimp only at zB
      obtain ⟨N0, N1, N2, N3⟩ := N
      have zN := cell_lt N0
      dsimp only at zN
      obtain ⟨F0, F1, F2, F3⟩ := F
      have zF := cell_lt F0
      dsimp only at zF
      obtain ⟨C0, C1, C2, C3⟩ := C
      have zC := cell_lt C0
      dsimp only at zC
      have D : EncAt (w24.heap.size) (w24.alloc (.cells #[txt r3, txt s3] 24)) r3 s3 := ⟨by go_simp, by go_simp, by go_simp, by go_simp⟩
      have EA : Ext w24 (w24.alloc (.cells #[txt r3, txt s3] 24)) := extA
      replace A' := A'.ext EA
      replace B' := B'.ext EA
      replace N' := N'.ext EA
      replace F' := F'.ext EA
      replace C' := C'.ext EA
      replace E := E.trans EA
      clear EA
      go_wp2_with fail
      clear A0 A1 A2 A3 zA B0 B1 B2 B3 zB N0 N1 N2 N3 zN F0 F1 F2 F3 zF C0 C1 C2 C3 zC
      have A := A'
      clear A'
      have B := B'
      clear B'
      have N := N'
      clear N'
      have F := F'
      clear F'
      have C := C'
      clear C'
      obtain ⟨bD, hbD⟩ : ∃ b, b = w24.heap.size := ⟨_, rfl⟩
      rw [← hbD] at D  ⊢
      generalize (w24.alloc (.cells #[txt r3, txt s3] 24)) = w25 at A B N F C D E ⊢
      clear hbD
      refine (C3.out _ E).mono ?_
      clear C3
      rintro e w26 ⟨rfl, hE⟩
      replace E := E.trans hE
      replace A := A.ext hE
      replace B := B.ext hE
      replace N := N.ext hE
      replace F := F.ext hE
      replace C := C.ext hE
      replace D := D.ext hE
      clear hE
      clear C D
      have A' := A
      have B' := B
      have N' := N
      have F' := F
      obtain ⟨A0, A1, A2, A3⟩ := A
      have zA := cell_lt A0
      dsimp only at zA
      obtain ⟨B0, B1, B2, B3⟩ := B
      have zB := cell_lt B0
      dsimp only at zB
      obtain ⟨N0, N1, N2, N3⟩ := N
      have zN := cell_lt N0
      dsimp only at zN
      obtain ⟨F0, F1, F2, F3⟩ := F
      have zF := cell_lt F0
      dsimp only at zF
      go_wp2_with fail
      clear A0 A1 A2 A3 zA B0 B1 B2 B3 zB N0 N1 N2 N3 zN F0 F1 F2 F3 zF
      have A := A'
      clear A'
      have B := B'
      clear B'
      have N := N'
      clear N'
      have F := F'
      clear F'
      rw [rounds_succ]
      have A' := A
      have B' := B
      have N' := N
      have F' := F
      obtain ⟨A0, A1, A2, A3⟩ := A
      have zA := cell_lt A0
      dsimp only at zA
      obtain ⟨B0, B1, B2, B3⟩ := B
      have zB := cell_lt B0
      dsimp only at zB
      obtain ⟨N0, N1, N2, N3⟩ := N
      have zN := cell_lt N0
      dsimp only at zN
      obtain ⟨F0, F1, F2, F3⟩ := F
      have zF := cell_lt F0
      dsimp only at zF
      go_wp2_with fail
      clear A0 A1 A2 A3 zA B0 B1 B2 B3 zB N0 N1 N2 N3 zN F0 F1 F2 F3 zF
      have A := A'
      clear A'
      have B := B'
      clear B'
      have N := N'
      clear N'
      have F := F'
      clear F'
      refine (HA.out _ E).mono ?_
      rintro e w27 ⟨rfl, hE⟩
      replace E := E.trans hE
      replace A := A.ext hE
      replace B := B.ext hE
      replace N := N.ext hE
      replace F := F.ext hE
      clear hE
      go_wp2_with fail
      go_ret
      exact ⟨rfl, E⟩
end Go.Proofs.YtdejgaiocjfhjaaGreatDoor
