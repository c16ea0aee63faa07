/- Steps of the proof: EMul, EOrdP, EFour, EFourE, EAddR, EBest, EXtr, EMulR, AChk, ATim, AFac. No conditions. -/
import Derived.Test.YtlnonmmaknhppaaGreatDoorZAB1
import Derived.Test.YtlnonmmaknhppaaGreatDoorZAB2
import Derived.Test.YtlnonmmaknhppaaGreatDoorZAB3
import Derived.Test.YtlnonmmaknhppaaGreatDoorZAB4
import Derived.Test.YtlnonmmaknhppaaGreatDoorZAB5
import Derived.Test.YtlnonmmaknhppaaGreatDoorZAB6
import Derived.Test.YtlnonmmaknhppaaGreatDoorZAB7
import Derived.Test.YtlnonmmaknhppaaGreatDoorZAB8
namespace Go.Proofs.YtlnonmmaknhppaaGreatDoor
open Go.RowKit
theorem ext_ends {a b : Enc} (ha : encE a = 0) (hb : encE b = 0) : endsR (mulS (extremesE a b).1.1 (extremesE a b).1.2) (mulS (extremesE a b).2.1 (extremesE a b).2.2) = endsR (resQ (prodLo a b)) (resQ (prodHi a b)) := by
  have x := extremes_is ha hb
  rw [mulS_right x.l.x x.l.y, mulS_right x.h.x x.h.y, x.lo, x.hi]
theorem eMulEnds_any (a b : Enc) (w : World) (hG : Glob w) (ha : encE a = 0) (hb : encE b = 0) :
    Calls Tryz.prog 83 #[.func (.func 84) #[] #[], pairsV (extremesE a b)] w (EncP (endsR (resQ (prodLo a b)) (resQ (prodHi a b))) w) := by
  have x := extremes_is ha hb
  rw [← ext_ends ha hb]
  exact eEnds_any 84 _ _ _ _ _ _ w enters49 (fun V g => mul_any _ _ V (hG.ext g) (len_right x.l.x) (len_right x.l.y)) (fun V g => mul_any _ _ V (hG.ext g) (len_right x.h.x) (len_right x.h.y))
set_option maxHeartbeats 8000000 in
set_option maxRecDepth 100000 in
theorem eMul_any (a b : Enc) (w : World) (hG : Glob w) (hl : LenE a) (hm : LenE b) : Calls Tryz.prog 38 #[encV a, encV b] w (EncP (mulE a b) w) := by
  have HB := Lib.hid (checked_two a b w hG hl hm)
  have HG := Lib.hid hG
  clear hG
  obtain ⟨C, hC⟩ : ∃ C, C = mulE a b := ⟨_, rfl⟩
  unfold EncP
  rw [← hC]
  unfold mulE at hC
  have hne0 : (((0 : Nat) : Int) != 0) = false := rfl
  obtain ⟨l, h⟩ := a
  obtain ⟨m, k⟩ := b
  obtain ⟨e, he⟩ : ∃ e, e = bothEE (l, h) (m, k) := ⟨_, rfl⟩
  rw [← he] at HB hC
  dsimp only at HB
  have c0 : ((((w.alloc (.cells #[txt l, txt h] 35)).alloc (.cells #[txt m, txt k] 35)).alloc (.cells #[.string ⟨#[]⟩, .string ⟨#[]⟩] 35)).alloc (.cells #[txt l, txt h, txt m, txt k] 35)).cell? ⟨w.heap.size, 0, none⟩ = some (txt l) := by go_simp
  have c1 : ((((w.alloc (.cells #[txt l, txt h] 35)).alloc (.cells #[txt m, txt k] 35)).alloc (.cells #[.string ⟨#[]⟩, .string ⟨#[]⟩] 35)).alloc (.cells #[txt l, txt h, txt m, txt k] 35)).cell? ⟨w.heap.size, 1, none⟩ = some (txt h) := by go_simp
  have c2 : ((((w.alloc (.cells #[txt l, txt h] 35)).alloc (.cells #[txt m, txt k] 35)).alloc (.cells #[.string ⟨#[]⟩, .string ⟨#[]⟩] 35)).alloc (.cells #[txt l, txt h, txt m, txt k] 35)).cell? ⟨w.heap.size + 1, 0, none⟩ = some (txt m) := by go_simp
  have c3 : ((((w.alloc (.cells #[txt l, txt h] 35)).alloc (.cells #[txt m, txt k] 35)).alloc (.cells #[.string ⟨#[]⟩, .string ⟨#[]⟩] 35)).alloc (.cells #[txt l, txt h, txt m, txt k] 35)).cell? ⟨w.heap.size + 1, 1, none⟩ = some (txt k) := by go_simp
  have X : EncAt (w.heap.size + 1 + 1) ((((w.alloc (.cells #[txt l, txt h] 35)).alloc (.cells #[txt m, txt k] 35)).alloc (.cells #[.string ⟨#[]⟩, .string ⟨#[]⟩] 35)).alloc (.cells #[txt l, txt h, txt m, txt k] 35)) [] [] := ⟨by go_simp, by go_simp, by go_simp, by go_simp⟩
  have E : Ext w ((((w.alloc (.cells #[txt l, txt h] 35)).alloc (.cells #[txt m, txt k] 35)).alloc (.cells #[.string ⟨#[]⟩, .string ⟨#[]⟩] 35)).alloc (.cells #[txt l, txt h, txt m, txt k] 35)) := extA
  go_enter Tryz.func38, Tryz.ntmps38
  go_wp2_with fail
  generalize hQ : ((((w.alloc (.cells #[txt l, txt h] 35)).alloc (.cells #[txt m, txt k] 35)).alloc (.cells #[.string ⟨#[]⟩, .string ⟨#[]⟩] 35)).alloc (.cells #[txt l, txt h, txt m, txt k] 35)) = w0 at c0 c1 c2 c3 X E ⊢
  refine (HB.out w0 (((w.alloc (.cells #[txt l, txt h] 35)).alloc (.cells #[txt m, txt k] 35)).alloc (.cells #[.string ⟨#[]⟩, .string ⟨#[]⟩] 35)) (w.heap.size + 1 + 1 + 1) (by simp) hQ.symm E).mono ?_
  clear hQ HB
  rintro e' w1 ⟨rfl, hE⟩
  replace c0 := hE.cell c0
  replace c1 := hE.cell c1
  replace c2 := hE.cell c2
  replace c3 := hE.cell c3
  replace X := X.ext hE
  replace E := E.trans hE
  clear hE
  by_cases e0 : e = 0
  rotate_left
  · rw [if_pos e0] at hC
    have HR : Hid (C = (([], []), e)) := hC
    have hne : (((e : Nat) : Int) != 0) = true := by rw [bne_iff_ne]; omega
    clear hC c0 c1 c2 c3 he HG e0
    obtain ⟨x0, x1, f0, f1⟩ := X
    go_wp2_with fail
    refine bodyPost_ret (v := .tuple #[.agg #[txt [], txt []], .int .i64 (e : Nat)]) (by rw [results_cell_tmp1 rfl]; go_simp) rfl ?_
    exact ⟨by first | (rw [HR.out]; done) | (rw [HR.out]; rfl), extA⟩
  subst e0
  rw [if_neg (by decide)] at hC
  obtain ⟨ha, hb⟩ := bothEE_two he.symm
  clear he
  have HX := Lib.hid (fun W (g : Ext w W) => eExtremes_any (l, h) (m, k) W (HG.out.ext g) hl hm ha hb)
  have HE := Lib.hid (fun W (g : Ext w W) => eMulEnds_any (l, h) (m, k) W (HG.out.ext g) ha hb)
  unfold EncP at HE
  generalize extremesE (l, h) (m, k) = P at HX HE
  generalize endsR (resQ (prodLo (l, h) (m, k))) (resQ (prodHi (l, h) (m, k))) = R at HE hC
  obtain ⟨⟨r1, r2⟩, r3⟩ := R
  have HR := Lib.hid hC
  clear hC ha hb hl hm HG
  go_wp2_with fail
  refine (HX.out _ E).mono ?_
  clear HX
  rintro e w2 ⟨rfl, hE⟩
  clear c0 c1 c2 c3
  replace X := X.ext hE
  replace E := E.trans hE
  clear hE
  go_wp2_with fail
  refine (HE.out _ E).mono ?_
  rintro e w3 ⟨rfl, hE⟩
  replace X := X.ext hE
  replace E := E.trans hE
  obtain ⟨x0, x1, f0, f1⟩ := X
  go_wp2_with fail
  refine bodyPost_ret (v := .tuple #[.agg #[txt r1, txt r2], .int .i64 (r3 : Nat)]) (by rw [results_cell_tmp1 rfl]; go_simp) rfl ?_
  exact ⟨by first | (rw [HR.out]; done) | (rw [HR.out]; rfl), extA⟩
end Go.Proofs.YtlnonmmaknhppaaGreatDoor
namespace Go.Proofs.YtlnonmmaknhppaaGreatDoor
open Go.RowKit
theorem ordp_num {a b c d : Txt} (ea : fracE a = 0) (eb : fracE b = 0) (ec : fracE c = 0) (ed : fracE d = 0) :
    (fracQ a * fracQ b - fracQ c * fracQ d).num.sign = signN (sumN (mulN (numOf a) (numOf b)) (negN (mulN (numOf c) (numOf d)))) := by
  obtain ⟨h1, h2⟩ := sumN_val (x := mulN (numOf a) (numOf b)) (y := negN (mulN (numOf c) (numOf d))) (mul_num ea eb).2 (mul_num ec ed).2
  have h3 : valQ (sumN (mulN (numOf a) (numOf b)) (negN (mulN (numOf c) (numOf d)))) = fracQ a * fracQ b - fracQ c * fracQ d := by
    rw [h1, negN_val, mulN_val, mulN_val, numOf_val, numOf_val, numOf_val, numOf_val, Rat.sub_eq_add_neg]
  rw [← h3]
  unfold valQ signN
  exact num_sign h2
set_option maxHeartbeats 8000000 in
set_option maxRecDepth 100000 in
theorem rOrdP_any (a b c d : Txt) (w : World) (ea : fracE a = 0) (eb : fracE b = 0) (ec : fracE c = 0) (ed : fracE d = 0) :
    Calls Tryz.prog 61 #[txt a, txt b, txt c, txt d] w fun e w' => e = .returned (.int .i64 (fracQ a * fracQ b - fracQ c * fracQ d).num.sign) ∧ Ext w w' := by
  have HS := Lib.hid (ordp_num ea eb ec ed)
  have HN1 := Lib.hid (fun W => numR_any a W ea (len_right ea))
  have HN2 := Lib.hid (fun W => numR_any b W eb (len_right eb))
  have HN3 := Lib.hid (fun W => numR_any c W ec (len_right ec))
  have HN4 := Lib.hid (fun W => numR_any d W ed (len_right ed))
  have HL1 := Lib.hid (numOf_lenR ea)
  have HL2 := Lib.hid (numOf_lenR eb)
  have HL3 := Lib.hid (numOf_lenR ec)
  have HL4 := Lib.hid (numOf_lenR ed)
  rw [HS.out]
  clear HS ea eb ec ed
  generalize numOf a = NA at *
  generalize numOf b = NB at *
  generalize numOf c = NC at *
  generalize numOf d = ND at *
  obtain ⟨SN, hSN⟩ : ∃ SN, SN = sumN (mulN NA NB) (negN (mulN NC ND)) := ⟨_, rfl⟩
  rw [← hSN]
  have HSN := Lib.hid hSN
  clear hSN
  obtain ⟨s, t, d'⟩ := SN
  go_enter Tryz.func61, Tryz.ntmps61
  go_wp2_with fail
  refine (HN1.out _).mono ?_; clear HN1; rintro e w1 ⟨v1, rfl, n1, E⟩
  go_wp2_with fail
  refine (HN2.out _).mono ?_; clear HN2; rintro e w2 ⟨v2, rfl, n2, e2⟩
  replace E := E.trans e2
  replace n1 := n1.ext e2
  clear e2
  go_wp2_with fail
  refine (rProd_any NA NB v1 v2 w2 n1 n2 (HL1.out.mono (by omega)) (HL2.out.mono (by omega))).mono ?_; clear n1 n2; rintro e w3 ⟨v3, rfl, n3, e3⟩
  replace E := E.trans e3
  clear e3
  go_wp2_with fail
  refine (HN3.out _).mono ?_; clear HN3; rintro e w4 ⟨v4, rfl, n4, e4⟩
  replace E := E.trans e4
  replace n3 := n3.ext e4
  clear e4
  go_wp2_with fail
  refine (HN4.out _).mono ?_; clear HN4; rintro e w5 ⟨v5, rfl, n5, e5⟩
  replace E := E.trans e5
  replace n3 := n3.ext e5
  replace n4 := n4.ext e5
  clear e5
  go_wp2_with fail
  refine (rProd_any NC ND v4 v5 w5 n4 n5 (HL3.out.mono (by omega)) (HL4.out.mono (by omega))).mono ?_; clear n4 n5; rintro e w6 ⟨v6, rfl, n6, e6⟩
  replace E := E.trans e6
  replace n3 := n3.ext e6
  clear e6
  go_wp2_with fail
  refine (rTurn_any (mulN NC ND) v6 w6 n6).mono ?_; clear n6; rintro e w7 ⟨v7, rfl, n7, e7⟩
  replace E := E.trans e7
  replace n3 := n3.ext e7
  clear e7
  go_wp2_with fail
  refine (rSum_any (mulN NA NB) (negN (mulN NC ND)) v3 v7 w7 n3 n7 ((mulN_lenR HL1.out HL2.out).mono (by omega)) ((mulN_lenR HL3.out HL4.out).mono (by omega))).mono ?_
  rintro e w8 ⟨v8, rfl, n8, e8⟩
  rw [← HSN.out] at n8
  obtain ⟨ta, tc, ba, bc, rfl, _, _⟩ := n8
  replace E := E.trans e8
  clear e8 n3 n7 HSN HL1 HL2 HL3 HL4
  dsimp only
  by_cases h0 : t = 0
  · have hl : (((toB 1000000 t).length : Int) == 0) = true := by rw [lenR_zero h0]; rfl
    have HS : Hid (signN (s, t, d') = 0) := by show _ = _; unfold signN; rw [if_pos h0]
    clear h0
    go_wp2
    go_ret
    exact ⟨ret_int HS.out.symm, extA⟩
  · have hl : (((toB 1000000 t).length : Int) == 0) = false := by rw [beq_eq_false_iff_ne]; have := lenR_pos h0; omega
    cases s
    · have HS : Hid (signN (false, t, d') = 1) := by show _ = _; unfold signN; rw [if_neg h0]; rfl
      clear h0
      go_wp2
      go_ret
      exact ⟨ret_int HS.out.symm, extA⟩
    · have HS : Hid (signN (true, t, d') = -1) := by show _ = _; unfold signN; rw [if_neg h0]; rfl
      clear h0
      go_wp2
      go_ret
      exact ⟨ret_int HS.out.symm, extA⟩
def beforeE (p q : Txt × Txt) (divide : Bool) : Bool :=
  if divide then decide ((fracQ p.1 * fracQ q.2 - fracQ q.1 * fracQ p.2).num.sign < 0) else decide ((fracQ p.1 * fracQ p.2 - fracQ q.1 * fracQ q.2).num.sign < 0)
set_option maxHeartbeats 8000000 in
set_option maxRecDepth 100000 in
theorem rBefore_any (p q : Txt × Txt) (g : Bool) (w : World) (hp : RightP p) (hq : RightP q) :
    Calls Tryz.prog 161 #[.agg #[txt p.1, txt p.2], .agg #[txt q.1, txt q.2], .bool g] w fun e w' => e = .returned (.bool (beforeE p q g)) ∧ Ext w w' := by
  have H1 := Lib.hid (fun W => rOrdP_any p.1 p.2 q.1 q.2 W hp.x hp.y hq.x hq.y)
  have H2 := Lib.hid (fun W => rOrdP_any p.1 q.2 q.1 p.2 W hp.x hq.y hq.x hp.y)
  unfold beforeE
  clear hp hq
  obtain ⟨a, b⟩ := p
  obtain ⟨c, d⟩ := q
  dsimp only at *
  generalize (fracQ a * fracQ b - fracQ c * fracQ d).num.sign = z1 at *
  generalize (fracQ a * fracQ d - fracQ c * fracQ b).num.sign = z2 at *
  cases g
  · go_enter Tryz.func161, Tryz.ntmps161
    go_wp2_with fail
    refine (H1.out _).mono ?_; rintro e w1 ⟨rfl, hE⟩
    go_wp2
    go_ret
    exact ⟨rfl, extA⟩
  · go_enter Tryz.func161, Tryz.ntmps161
    go_wp2_with fail
    refine (H2.out _).mono ?_; rintro e w1 ⟨rfl, hE⟩
    go_wp2
    go_ret
    exact ⟨rfl, extA⟩
end Go.Proofs.YtlnonmmaknhppaaGreatDoor
namespace Go.Proofs.YtlnonmmaknhppaaGreatDoor
open Go.RowKit
def txtsV (l : List Txt) : List Value := l.map txt
theorem txtsV_get {l : List Txt} {i : Nat} (h : i < l.length) : (txtsV l)[i]? = some (txt (l.getD i [])) := by
  simp [txtsV, List.getD_eq_getElem?_getD, h]
def OwnT (w : World) (v : Value) (l : List Txt) : Prop := w.ownsRow 0 23 1 v l.length (txtsV l)
theorem OwnT.ext {A B : World} {v : Value} {l : List Txt} (h : OwnT A v l) (he : Ext A B) : OwnT B v l := rowExt h he
theorem OwnT.succ {w : World} {v : Value} {l : List Txt} {x : Txt} (h : w.ownsRow 0 23 1 v (l.length + 1) (txtsV l ++ [txt x])) : OwnT w v (l ++ [x]) := by
  unfold OwnT txtsV
  rw [List.length_append, List.length_singleton, List.map_append]
  exact h
theorem OwnT.reads {A : World} {v : Value} {l : List Txt} (h : OwnT A v l) : ∃ a cap, v = .slice a l.length cap ∧ CellsT A a l := by
  obtain ⟨a, cap, hv, _, hr⟩ := rowReads h
  refine ⟨a, cap, hv, fun i hi => ?_⟩
  obtain ⟨b, hb, _, h1, _⟩ := hr i _ (txtsV_get hi)
  exact ⟨b, 0, hb, by rw [Nat.zero_add]; exact h1⟩
theorem infoT : (Tryz.prog.info? 23).map (fun i => (i.zero, i.size, i.bytes)) = some (some (.string ⟨#[]⟩), 1, 16) := by kernel_rfl
structure FourO (g : Nat) (W : World) (l : List Txt) (E : Nat) (v : Value) : Prop where
  c0 : W.cell? ⟨g, 0, none⟩ = some v
  c1 : W.cell? ⟨g, 1, none⟩ = some (.int .i64 (E : Nat))
  f0 : W.frozen? ⟨g, 0, none⟩ = false
  f1 : W.frozen? ⟨g, 1, none⟩ = false
  own : OwnT W v l
  blk : ∀ b, v.ownBlock = some b → g < b
def Four (g : Nat) (W : World) (l : List Txt) (E : Nat) : Prop := ∃ v, FourO g W l E v
theorem FourO.ext {g : Nat} {A B : World} {l : List Txt} {E : Nat} {v : Value} (x : FourO g A l E v) (e : Ext A B) : FourO g B l E v := by
  have hz : g < A.heap.size := cell_lt x.c0
  exact ⟨e.cell x.c0, e.cell x.c1, (Below.frozen (p := ⟨g, 0, none⟩) e hz).trans x.f0, (Below.frozen (p := ⟨g, 1, none⟩) e hz).trans x.f1, x.own.ext e, x.blk⟩
theorem Four.ext {g : Nat} {A B : World} {l : List Txt} {E : Nat} (x : Four g A l E) (e : Ext A B) : Four g B l E := by
  obtain ⟨v, h⟩ := x
  exact ⟨v, h.ext e⟩
theorem setCell_block {w : World} {b o c : Nat} {v : Value} (h : c ≠ b) : (w.setCell ⟨b, o, none⟩ v).heap[c]? = w.heap[c]? := by
  simp only [World.setCell, Array.getElem?_modify]
  rw [if_neg (fun e => h e.symm)]
theorem OwnT.set {g o : Nat} {w : World} {v u : Value} {l : List Txt} (h : OwnT w v l) (hb : ∀ b, v.ownBlock = some b → g < b) : OwnT (w.setCell ⟨g, o, none⟩ u) v l :=
  rowSame h fun b h1 => setCell_block (by have := hb b h1; omega)
theorem FourO.setE {g : Nat} {w : World} {l : List Txt} {E : Nat} {v : Value} (x : FourO g w l E v) (e : Nat) : FourO g (w.setCell ⟨g, 1, none⟩ (.int .i64 (e : Nat))) l e v :=
  ⟨by rw [World.cell?_setCell_other _ _ _ _ (fun h => by simp only [Addr.mk.injEq] at h; omega)]; exact x.c0, World.cell?_setCell_same _ _ _ x.c1, by rw [World.frozen?_setCell]; exact x.f0, by rw [World.frozen?_setCell]; exact x.f1, x.own.set x.blk, x.blk⟩
theorem FourO.app {g : Nat} {w w5 : World} {l : List Txt} {E : Nat} {v v' : Value} {a : Txt} (x : FourO g w l E v) (hown : w5.ownsRow 0 23 1 v' (l.length + 1) (txtsV l ++ [txt a])) (hend : AppEnd w w5 v v') :
    FourO g (w5.setCell ⟨g, 0, none⟩ v') (l ++ [a]) E v' ∧ Below g w (w5.setCell ⟨g, 0, none⟩ v') := by
  have hz : g < w.heap.size := cell_lt x.c0
  have B : Below (g + 1) w w5 := hend.below (by omega) (fun b hb => x.blk b hb)
  have hb : ∀ b, v'.ownBlock = some b → g < b := fun b h => hend.ge (n := g + 1) (by omega) (fun b hb => x.blk b hb) b h
  have c0 := cellB B (p := ⟨g, 0, none⟩) (by show g < g + 1; omega) x.c0
  have c1 := cellB B (p := ⟨g, 1, none⟩) (by show g < g + 1; omega) x.c1
  have f0 := (Below.frozen (p := ⟨g, 0, none⟩) B (by show g < g + 1; omega)).trans x.f0
  have f1 := (Below.frozen (p := ⟨g, 1, none⟩) B (by show g < g + 1; omega)).trans x.f1
  refine ⟨⟨World.cell?_setCell_same _ _ _ c0, by rw [World.cell?_setCell_other _ _ _ _ (fun h => by simp only [Addr.mk.injEq] at h; omega)]; exact c1, by rw [World.frozen?_setCell]; exact f0, by rw [World.frozen?_setCell]; exact f1, (OwnT.succ hown).set hb, hb⟩, ?_⟩
  exact Below.setCell (p := ⟨g, 0, none⟩) (B.mono (by omega)) (Nat.le_refl g) v'
theorem cells_one_at (w : World) (n : Nat) (hn : n = w.heap.size) (xs : List Value) (t : TypeId) : ∀ j u, xs[j]? = some u → (w.alloc (.cells xs.toArray t)).cell? ((⟨n, 0, none⟩ : Addr).add j) = some u := by
  subst hn; exact cells_one w xs t
set_option maxHeartbeats 4000000 in
set_option maxRecDepth 100000 in
theorem rWith_any (g : Nat) (l : List Txt) (E e : Nat) (a : Txt) (w : World) (h : Four g w l E) (hl : l.length ≤ 100) :
    Calls Tryz.prog 130 #[.pointer (some ⟨g, 0, none⟩), txt a, .int .i64 (e : Nat)] w fun en w' => en = .returned (.tuple #[]) ∧ Four g w' (l ++ [a]) (if E = 0 then e else E) ∧ Below g w w' := by
  obtain ⟨v, x⟩ := h
  obtain ⟨i0, hi, hi0, hi1, hi2⟩ := info_parts infoT
  have hmx : (1000 : Nat) ≤ maxLen := by decide
  have hg : g < w.heap.size := cell_lt x.c0
  by_cases h0 : E = 0
  · rw [if_pos h0]
    have hE : (((E : Nat) : Int) == 0) = true := by rw [h0]; rfl
    have HB : Hid (Below g w (w.setCell ⟨g, 1, none⟩ (.int .i64 (e : Nat)))) := Below.setCell (p := ⟨g, 1, none⟩) (Below.refl g w) (Nat.le_refl g) _
    have X2 := Lib.hid (x.setE e)
    obtain ⟨c0, c1, f0, f1, _, _⟩ := x
    go_enter Tryz.func130, Tryz.ntmps130
    go_wp2_with (at_builtin; refine wpList_append1 _ rfl _ _ 173 rfl 23 i0 (.string ⟨#[]⟩) 1 16 Tryz.underlying173 hi hi0 hi1 hi2 rfl (by decide) v l.length (txtsV l) rfl (X2.out.own.ext ((Ext.refl _).alloc _)) ⟨w.heap.size, 0, none⟩ 1 1 (by decide) [txt a] rfl rfl (cells_one_at _ _ (by simp) _ _) (by intro u hu; simp at hu; subst hu; rfl) (by omega) (by omega) ?_)
    intro v' w5 hown hend
    obtain ⟨a', cap', rfl, _⟩ := rowReads hown
    obtain ⟨y, B⟩ := (X2.out.ext ((Ext.refl _).alloc _)).app hown hend
    have c5 := cellB (hend.below (n := g + 1) (by simp; omega) (fun b hb => X2.out.blk b hb)) (p := ⟨g, 0, none⟩) (by show g < g + 1; omega) (X2.out.ext ((Ext.refl _).alloc _)).c0
    have f5 := (Below.frozen (p := ⟨g, 0, none⟩) (hend.below (n := g + 1) (by simp; omega) (fun b hb => X2.out.blk b hb)) (by show g < g + 1; omega)).trans (X2.out.ext ((Ext.refl _).alloc _)).f0
    have Y := Lib.hid y
    have BB := Lib.hid B
    clear y B hown hend
    go_wp2
    go_end0
    refine ⟨rfl, ⟨_, Y.out⟩, ?_⟩
    exact ((HB.out.trans ((Ext.refl _).alloc _ |>.mono (by simp; omega))).trans BB.out)
  · rw [if_neg h0]
    have hE : (((E : Nat) : Int) == 0) = false := by rw [beq_eq_false_iff_ne]; omega
    have X2 := Lib.hid x
    obtain ⟨c0, c1, f0, f1, _, _⟩ := x
    go_enter Tryz.func130, Tryz.ntmps130
    go_wp2_with (at_builtin; refine wpList_append1 _ rfl _ _ 173 rfl 23 i0 (.string ⟨#[]⟩) 1 16 Tryz.underlying173 hi hi0 hi1 hi2 rfl (by decide) v l.length (txtsV l) rfl (X2.out.own.ext ((Ext.refl _).alloc _)) ⟨w.heap.size, 0, none⟩ 1 1 (by decide) [txt a] rfl rfl (cells_one_at _ _ (by simp) _ _) (by intro u hu; simp at hu; subst hu; rfl) (by omega) (by omega) ?_)
    intro v' w5 hown hend
    obtain ⟨a', cap', rfl, _⟩ := rowReads hown
    obtain ⟨y, B⟩ := (X2.out.ext ((Ext.refl _).alloc _)).app hown hend
    have c5 := cellB (hend.below (n := g + 1) (by simp; omega) (fun b hb => X2.out.blk b hb)) (p := ⟨g, 0, none⟩) (by show g < g + 1; omega) (X2.out.ext ((Ext.refl _).alloc _)).c0
    have f5 := (Below.frozen (p := ⟨g, 0, none⟩) (hend.below (n := g + 1) (by simp; omega) (fun b hb => X2.out.blk b hb)) (by show g < g + 1; omega)).trans (X2.out.ext ((Ext.refl _).alloc _)).f0
    have Y := Lib.hid y
    have BB := Lib.hid B
    clear y B hown hend
    go_wp2
    go_end0
    refine ⟨rfl, ⟨_, Y.out⟩, ?_⟩
    exact (((Ext.refl w).alloc _ |>.mono (by omega))).trans BB.out
end Go.Proofs.YtlnonmmaknhppaaGreatDoor
namespace Go.Proofs.YtlnonmmaknhppaaGreatDoor
open Go.RowKit
def fourE (l : List Txt) (E : Nat) : EncR := if E ≠ 0 then badEnc E else ((lowL (l.getD 0 []) l, highL (l.getD 0 []) l), 0)
theorem lowL_take {x : Txt} {l : List Txt} {k : Nat} (h : k < l.length) : lowL x (l.take (k + 1)) = if ordQ (l.getD k []) (lowL x (l.take k)) < 0 then l.getD k [] else lowL x (l.take k) := by
  unfold lowL
  rw [List.take_add_one, List.getElem?_eq_getElem h, List.foldl_append, List.getD_eq_getElem?_getD, List.getElem?_eq_getElem h]
  rfl
theorem highL_take {x : Txt} {l : List Txt} {k : Nat} (h : k < l.length) : highL x (l.take (k + 1)) = if 0 < ordQ (l.getD k []) (highL x (l.take k)) then l.getD k [] else highL x (l.take k) := by
  unfold highL
  rw [List.take_add_one, List.getElem?_eq_getElem h, List.foldl_append, List.getD_eq_getElem?_getD, List.getElem?_eq_getElem h]
  rfl
theorem lowL_mem (x : Txt) (l : List Txt) : lowL x l = x ∨ lowL x l ∈ l := by
  induction l generalizing x with
  | nil => exact .inl rfl
  | cons a l ih =>
    have e : lowL x (a :: l) = lowL (if ordQ a x < 0 then a else x) l := rfl
    rw [e]
    rcases ih (if ordQ a x < 0 then a else x) with h | h
    · rw [h]; split
      · exact .inr (List.mem_cons_self ..)
      · exact .inl rfl
    · exact .inr (List.mem_cons_of_mem _ h)
theorem highL_mem (x : Txt) (l : List Txt) : highL x l = x ∨ highL x l ∈ l := by
  induction l generalizing x with
  | nil => exact .inl rfl
  | cons a l ih =>
    have e : highL x (a :: l) = highL (if 0 < ordQ a x then a else x) l := rfl
    rw [e]
    rcases ih (if 0 < ordQ a x then a else x) with h | h
    · rw [h]; split
      · exact .inr (List.mem_cons_self ..)
      · exact .inl rfl
    · exact .inr (List.mem_cons_of_mem _ h)
theorem getD_memT {l : List Txt} {k : Nat} (h : k < l.length) : l.getD k [] ∈ l := by
  rw [List.getD_eq_getElem?_getD, List.getElem?_eq_getElem h]; exact List.getElem_mem h
structure FourV (g : Nat) (W : World) (l : List Txt) (E : Nat) (a : Option Addr) (cap : Nat) : Prop where
  c0 : W.cell? ⟨g, 0, none⟩ = some (.slice a l.length cap)
  c1 : W.cell? ⟨g, 1, none⟩ = some (.int .i64 (E : Nat))
  cs : CellsT W a l
theorem FourV.ext {g : Nat} {A B : World} {l : List Txt} {E : Nat} {a : Option Addr} {cap : Nat} (x : FourV g A l E a cap) (e : Ext A B) : FourV g B l E a cap := ⟨e.cell x.c0, e.cell x.c1, x.cs.ext e⟩
set_option maxHeartbeats 8000000 in
set_option maxRecDepth 100000 in
theorem rEndsV_any (g : Nat) (l : List Txt) (E : Nat) (a : Option Addr) (cap : Nat) (w : World) (x : FourV g w l E a cap) (h0 : 0 < l.length) (hl : l.length ≤ 100) (hr : E = 0 → ∀ x ∈ l, fracE x = 0) :
    Calls Tryz.prog 132 #[.pointer (some ⟨g, 0, none⟩)] w (EncP (fourE l E) w) := by
  unfold EncP
  obtain ⟨C, hC⟩ : ∃ C, C = fourE l E := ⟨_, rfl⟩
  rw [← hC]
  unfold fourE at hC
  have hz : g < w.heap.size := cell_lt x.c0
  by_cases hE : E = 0
  rotate_left
  · rw [if_pos hE] at hC
    have HR : Hid (C = (([], []), E)) := hC
    have hne : (((E : Nat) : Int) != 0) = true := by rw [bne_iff_ne]; omega
    obtain ⟨c0, c1, _⟩ := x
    clear hC hr
    have X : EncAt w.heap.size (w.alloc (.cells #[.string ⟨#[]⟩, .string ⟨#[]⟩] 35)).drew [] [] := ⟨by go_simp, by go_simp, by go_simp, by go_simp⟩
    have E1 : Ext w (w.alloc (.cells #[.string ⟨#[]⟩, .string ⟨#[]⟩] 35)).drew := extA
    have hS := E1.cell c1
    go_enter Tryz.func132, Tryz.ntmps132
    go_wp2_with fail
    refine wp_region_heldE 99 (fun w' => w'.cell? ⟨g, 1, none⟩ = some (.int .i64 (E : Nat))) (by kernel_rfl) ?_
    clear c0 c1
    generalize (w.alloc (.cells #[.string ⟨#[]⟩, .string ⟨#[]⟩] 35)).drew = w1 at X E1 hS ⊢
    obtain ⟨d0, d1, g0, g1⟩ := X
    ((refine eTk 0 ?_); (refine eTk 1 ?_); (refine eTk 2 ?_); (refine eTk 3 ?_); (refine eTk 4 ?_))
    (refine wpAnyE_one (i := 5) (o := ?_) ?_ (by kernel_rfl) (fun K hK => ?_); rotate_left; (focus ((simp only [List.getElem?_toArray, List.getElem?_cons_succ, List.getElem?_cons_zero]; exact rfl))); go_simp; refine hK.out _ _ ?_ (fun hHeld => ?_); rotate_left; clear hK K; (try simp only [Act.put, List.setIfInBounds_toArray, List.set_cons_zero, List.set_cons_succ]))
    rotate_left
    · go_simp
    ((refine ePu 6 ?_))
    refine wpAnyE_done (by kernel_rfl) ?_ _
    go_wp2_with fail
    refine bodyPost_ret (v := .tuple #[.agg #[txt [], txt []], .int .i64 (E : Nat)]) (by rw [results_cell_tmp1 rfl]; go_simp) rfl ?_
    exact ⟨by first | (rw [HR.out]; done) | (rw [HR.out]; rfl), extA⟩
  subst hE
  rw [if_neg (by decide)] at hC
  have HR := Lib.hid hC
  clear hC
  have hcs := x.cs
  have HX := Lib.hid x
  have HCS := Lib.hid hcs
  have HER := Lib.hid (hr rfl)
  clear hr
  obtain ⟨c0, c1, _⟩ := x
  obtain ⟨b, off, ha, k0⟩ := hcs 0 h0
  subst ha
  clear hcs
  rw [Nat.add_zero] at k0
  have hb : b < w.heap.size := cell_lt k0
  obtain ⟨x0, hx0⟩ : ∃ x0, x0 = l.getD 0 [] := ⟨_, rfl⟩
  rw [← hx0] at HR k0
  have HX0 := Lib.hid hx0
  clear hx0
  have X : EncAt w.heap.size (w.alloc (.cells #[.string ⟨#[]⟩, .string ⟨#[]⟩] 35)).drew [] [] := ⟨by go_simp, by go_simp, by go_simp, by go_simp⟩
  have E1 : Ext w (w.alloc (.cells #[.string ⟨#[]⟩, .string ⟨#[]⟩] 35)).drew := extA
  have hS : (w.alloc (.cells #[.string ⟨#[]⟩, .string ⟨#[]⟩] 35)).drew.cell? ⟨g, 0, none⟩ = some (.slice (some ⟨b, off, none⟩) l.length cap) ∧ (w.alloc (.cells #[.string ⟨#[]⟩, .string ⟨#[]⟩] 35)).drew.cell? ⟨b, off, none⟩ = some (txt x0) := ⟨E1.cell c0, E1.cell k0⟩
  have h0i : (0 : Int) < (l.length : Int) := by omega
  go_enter Tryz.func132, Tryz.ntmps132
  go_wp2_with fail
  refine wp_region_heldE 99 (fun w' => w'.cell? ⟨g, 0, none⟩ = some (.slice (some ⟨b, off, none⟩) l.length cap) ∧ w'.cell? ⟨b, off, none⟩ = some (txt x0)) (by kernel_rfl) ?_
  clear c0 c1 k0
  generalize (w.alloc (.cells #[.string ⟨#[]⟩, .string ⟨#[]⟩] 35)).drew = w1 at X E1 hS ⊢
  have hz1 := cell_lt X.c0
  dsimp only at hz1
  ((refine eTk 0 ?_); (refine eTk 1 ?_); (refine eTk 2 ?_); (refine eTk 3 ?_); (refine eTk 4 ?_); (refine eTk 5 ?_); (refine eTk 6 ?_); (refine eTk 7 ?_); (refine eTk 8 ?_); (refine eTk 9 ?_); (refine eTk 10 ?_); (refine eTk 11 ?_); (refine eTk 12 ?_))
  have s1 := hS.1
  have s2 := hS.2
  have z1 := cell_lt s1
  have z2 := cell_lt s2
  dsimp only at z1 z2
  (refine wpAnyE_one (i := 13) (o := ?_) ?_ (by kernel_rfl) (fun K hK => ?_); rotate_left; (focus ((simp only [List.getElem?_toArray, List.getElem?_cons_succ, List.getElem?_cons_zero]; exact rfl))); go_simp; refine hK.out _ _ ?_ (fun hHeld => ?_); rotate_left; clear hK K; (try simp only [Act.put, List.setIfInBounds_toArray, List.set_cons_zero, List.set_cons_succ]))
  rotate_left
  · exact ⟨by go_simp, by go_simp⟩
  have Y : EncAt w1.heap.size (w1.alloc (.cells #[.string ⟨#[]⟩, .string ⟨#[]⟩] 35)) [] [] := ⟨by go_simp, by go_simp, by go_simp, by go_simp⟩
  have E2 : Ext w1 (w1.alloc (.cells #[.string ⟨#[]⟩, .string ⟨#[]⟩] 35)) := extA
  have X2 := X.ext E2
  replace E1 := E1.trans E2
  replace hS := And.intro (E2.cell s1) (E2.cell s2)
  have hob : w.heap.size < w1.heap.size := hz1
  clear E2 X hHeld s1 s2 z1 z2 hz1
  obtain ⟨ob, hobe⟩ : ∃ ob, ob = w1.heap.size := ⟨_, rfl⟩
  rw [← hobe] at Y hob ⊢
  generalize (w1.alloc (.cells #[.string ⟨#[]⟩, .string ⟨#[]⟩] 35)) = w2 at X2 Y E1 hS ⊢
  clear hobe
  have Y0 := Y
  obtain ⟨y0, y1, p0, p1⟩ := Y0
  (refine wpAnyE_one (i := 14) (o := ?_) ?_ (by kernel_rfl) (fun K hK => ?_); rotate_left; (focus ((simp only [List.getElem?_toArray, List.getElem?_cons_succ, List.getElem?_cons_zero]; exact rfl))); go_simp; refine hK.out _ _ ?_ (fun hHeld => ?_); rotate_left; clear hK K; (try simp only [Act.put, List.setIfInBounds_toArray, List.set_cons_zero, List.set_cons_succ]))
  rotate_left
  · exact ⟨by rw [World.cell?_setCell_other _ _ _ _ (fun h => by simp only [Addr.mk.injEq] at h; omega), World.cell?_setCell_other _ _ _ _ (fun h => by simp only [Addr.mk.injEq] at h; omega)]; exact hS.1, by rw [World.cell?_setCell_other _ _ _ _ (fun h => by simp only [Addr.mk.injEq] at h; omega), World.cell?_setCell_other _ _ _ _ (fun h => by simp only [Addr.mk.injEq] at h; omega)]; exact hS.2⟩
  refine wpAnyE_done (by kernel_rfl) ?_ _
  clear hHeld hS y0 y1 p0 p1
  replace Y := (Y.set0 x0).set1 x0
  replace X2 := (X2.other (c := ob) (o := 0) (v := txt x0) (by omega)).other (c := ob) (o := 1) (v := txt x0) (by omega)
  replace E1 := (E1.set (b := ob) (o := 0) (by omega) (txt x0)).set (b := ob) (o := 1) (by omega) (txt x0)
  generalize ((w2.setCell ⟨ob, 0, none⟩ (txt x0)).setCell ⟨ob, 1, none⟩ (txt x0)) = w3 at X2 Y E1 ⊢
  go_wp2
  go_loopw [5] (fun i wr => ∃ k : Nat, i = .int .i64 (k : Nat) ∧ k ≤ l.length ∧ Hid (EncAt ob wr (lowL x0 (l.take k)) (highL x0 (l.take k))) ∧ Hid (EncAt w.heap.size wr [] []) ∧ Ext w wr) (fun i _ => l.length - (intOf i).toNat)
  case atStart => exact ⟨0, rfl, by omega, Y, X2, E1⟩
  case round =>
    obtain ⟨k, rfl, hk, hY, hX2, he⟩ := hrel
    have c0 := (HX.out.ext he).c0
    by_cases hkl : k < l.length
    · obtain ⟨b', off', hab, ck⟩ := HCS.out.ext he k hkl
      cases hab
      obtain ⟨t, ht⟩ : ∃ t, t = l.getD k [] := ⟨_, rfl⟩
      obtain ⟨lo, hlo⟩ : ∃ lo, lo = lowL x0 (l.take k) := ⟨_, rfl⟩
      obtain ⟨hi, hhi⟩ : ∃ hi, hi = highL x0 (l.take k) := ⟨_, rfl⟩
      have HL : Hid (lowL x0 (l.take (k + 1)) = if ordQ t lo < 0 then t else lo) := by show _ = _; rw [lowL_take hkl, ht, hlo]
      have HH : Hid (highL x0 (l.take (k + 1)) = if 0 < ordQ t hi then t else hi) := by show _ = _; rw [highL_take hkl, ht, hhi]
      have e0 : fracE x0 = 0 := by rw [HX0.out]; exact HER.out _ (getD_memT h0)
      have e1 : fracE t = 0 := by rw [ht]; exact HER.out _ (getD_memT hkl)
      have e2 : fracE lo = 0 := by
        rw [hlo]
        rcases lowL_mem x0 (l.take k) with h | h
        · rw [h]; exact e0
        · exact HER.out _ (List.mem_of_mem_take h)
      have e3 : fracE hi = 0 := by
        rw [hhi]
        rcases highL_mem x0 (l.take k) with h | h
        · rw [h]; exact e0
        · exact HER.out _ (List.mem_of_mem_take h)
      have HO1 : Hid (∀ W, Calls Tryz.prog 57 #[txt t, txt lo] W fun e w' => e = .returned (.int .i64 (ordQ t lo)) ∧ Ext W w') := fun W => rOrder_any t lo W e1 e2 (len_right e1) (len_right e2)
      have HO2 : Hid (∀ W, Calls Tryz.prog 57 #[txt t, txt hi] W fun e w' => e = .returned (.int .i64 (ordQ t hi)) ∧ Ext W w') := fun W => rOrder_any t hi W e1 e3 (len_right e1) (len_right e3)
      rw [← ht] at ck
      rw [← hlo, ← hhi] at hY
      clear e0 e1 e2 e3 ht hlo hhi
      have hki : (k : Int) < (l.length : Int) := by omega
      have hw1 : IntKind.i64.wrap ((k : Int) + 1) = (k : Int) + 1 := by rw [IntKind.wrap_i64]; omega
      generalize ordQ t lo = q1 at *
      generalize ordQ t hi = q2 at *
      have Y := hY.out
      have y0 := Y.c0
      clear hY
      go_wp2_with fail
      have hD : Ext wr wr.drew := extA
      have hS : wr.drew.cell? ⟨g, 0, none⟩ = some (.slice (some ⟨b, off, none⟩) l.length cap) ∧ wr.drew.cell? ⟨b, off + k, none⟩ = some (txt t) ∧ wr.drew.cell? ⟨ob, 0, none⟩ = some (txt lo) := ⟨hD.cell c0, hD.cell ck, hD.cell y0⟩
      refine wp_region_heldE 99 (fun w' => w'.cell? ⟨g, 0, none⟩ = some (.slice (some ⟨b, off, none⟩) l.length cap) ∧ w'.cell? ⟨b, off + k, none⟩ = some (txt t) ∧ w'.cell? ⟨ob, 0, none⟩ = some (txt lo)) (by kernel_rfl) ?_
      have hd := hD
      generalize wr.drew = w4 at hD hS ⊢
      clear hd c0 ck y0
      ((refine eTk 0 ?_); (refine eTk 1 ?_); (refine eTk 2 ?_); (refine eTk 3 ?_); (refine eTk 4 ?_); (refine eTk 5 ?_); (refine eTk 6 ?_); (refine eTk 7 ?_); (refine eTk 8 ?_))
      (refine wpAnyE_one (i := 9) (o := ?_) ?_ (by kernel_rfl) (fun K hK => ?_); rotate_left; (focus ((simp only [List.getElem?_toArray, List.getElem?_cons_succ, List.getElem?_cons_zero]; exact rfl))); go_simp; go_at_call 57; refine (HO1.out _).mono ?_; rintro e w5 ⟨rfl, hE⟩; go_wp2_with fail; refine hK.out _ _ ?_ (fun hHeld => ?_); rotate_left; clear hK K; (try simp only [Act.put, List.setIfInBounds_toArray, List.set_cons_zero, List.set_cons_succ]))
      rotate_left
      · exact ⟨hE.cell hS.1, hE.cell hS.2.1, hE.cell hS.2.2⟩
      replace hD := hD.trans hE
      replace hS := And.intro (hE.cell hS.1) (And.intro (hE.cell hS.2.1) (hE.cell hS.2.2))
      clear hE hHeld
      ((refine ePu 10 ?_))
      refine wpAnyE_done (by kernel_rfl) ?_ _
      have c0 := hS.1
      have ck := hS.2.1
      clear hS
      replace Y := Y.ext hD
      replace hX2 := Lib.hid (hX2.out.ext hD)
      replace he := he.trans hD
      clear hD HO1
      by_cases h1 : q1 < 0
      · have HL2 := Lib.hid (HL.out.trans (if_pos h1))
        have Y2 := Y.set0 t
        have X2' := Lib.hid (hX2.out.other (c := ob) (o := 0) (v := txt t) (by omega))
        have he2 := he.set (b := ob) (o := 0) (by omega) (txt t)
        have c02 : (w5.setCell ⟨ob, 0, none⟩ (txt t)).cell? ⟨g, 0, none⟩ = some (.slice (some ⟨b, off, none⟩) l.length cap) := by rw [World.cell?_setCell_other _ _ _ _ (fun h => by simp only [Addr.mk.injEq] at h; omega)]; exact c0
        have ck2 : (w5.setCell ⟨ob, 0, none⟩ (txt t)).cell? ⟨b, off + k, none⟩ = some (txt t) := by rw [World.cell?_setCell_other _ _ _ _ (fun h => by simp only [Addr.mk.injEq] at h; omega)]; exact ck
        obtain ⟨y0, y1, p0, p1⟩ := Y
        go_wp2_with fail
        clear y0 y1 p0 p1 c0 ck hX2 he
        generalize (w5.setCell ⟨ob, 0, none⟩ (txt t)) = w6 at Y2 X2' he2 c02 ck2 ⊢
        have Y := Y2
        have hX2 := X2'
        have he := he2
        have c0 := c02
        have ck := ck2
        clear Y2 X2' he2 c02 ck2
        have y1 := Y.c1
        have hD : Ext w6 w6.drew := extA
        have hS : w6.drew.cell? ⟨g, 0, none⟩ = some (.slice (some ⟨b, off, none⟩) l.length cap) ∧ w6.drew.cell? ⟨b, off + k, none⟩ = some (txt t) ∧ w6.drew.cell? ⟨ob, 1, none⟩ = some (txt hi) := ⟨hD.cell c0, hD.cell ck, hD.cell y1⟩
        refine wp_region_heldE 99 (fun w' => w'.cell? ⟨g, 0, none⟩ = some (.slice (some ⟨b, off, none⟩) l.length cap) ∧ w'.cell? ⟨b, off + k, none⟩ = some (txt t) ∧ w'.cell? ⟨ob, 1, none⟩ = some (txt hi)) (by kernel_rfl) ?_
        have hd := hD
        generalize w6.drew = w7 at hD hS ⊢
        clear hd c0 ck y1
        ((refine eTk 0 ?_); (refine eTk 1 ?_); (refine eTk 2 ?_); (refine eTk 3 ?_); (refine eTk 4 ?_); (refine eTk 5 ?_); (refine eTk 6 ?_); (refine eTk 7 ?_); (refine eTk 8 ?_))
        (refine wpAnyE_one (i := 9) (o := ?_) ?_ (by kernel_rfl) (fun K hK => ?_); rotate_left; (focus ((simp only [List.getElem?_toArray, List.getElem?_cons_succ, List.getElem?_cons_zero]; exact rfl))); go_simp; go_at_call 57; refine (HO2.out _).mono ?_; rintro e w8 ⟨rfl, hE⟩; go_wp2_with fail; refine hK.out _ _ ?_ (fun hHeld => ?_); rotate_left; clear hK K; (try simp only [Act.put, List.setIfInBounds_toArray, List.set_cons_zero, List.set_cons_succ]))
        rotate_left
        · exact ⟨hE.cell hS.1, hE.cell hS.2.1, hE.cell hS.2.2⟩
        replace hD := hD.trans hE
        replace hS := And.intro (hE.cell hS.1) (And.intro (hE.cell hS.2.1) (hE.cell hS.2.2))
        clear hE hHeld
        ((refine ePu 10 ?_))
        refine wpAnyE_done (by kernel_rfl) ?_ _
        have c0 := hS.1
        have ck := hS.2.1
        clear hS
        replace Y := Y.ext hD
        replace hX2 := Lib.hid (hX2.out.ext hD)
        replace he := he.trans hD
        clear hD HO2
        have hkl2 : k + 1 ≤ l.length := hkl
        have hms : l.length - (k + 1) < l.length - k := by omega
        by_cases h2 : 0 < q2
        · have HH2 := Lib.hid (HH.out.trans (if_pos h2))
          have Y2 := Lib.hid (Y.set1 t)
          have X2' := Lib.hid (hX2.out.other (c := ob) (o := 1) (v := txt t) (by omega))
          have he2 := he.set (b := ob) (o := 1) (by omega) (txt t)
          obtain ⟨y0, y1, p0, p1⟩ := Y
          go_wp2
          refine ⟨⟨k + 1, by go_num, hkl2, ?_, X2'.out, he2⟩, by simp [intOf]; omega⟩
          rw [HL2.out, HH2.out]; exact Y2.out
        · have HH2 := Lib.hid (HH.out.trans (if_neg h2))
          have Y2 := Lib.hid Y
          obtain ⟨y0, y1, p0, p1⟩ := Y
          go_wp2
          refine ⟨⟨k + 1, by go_num, hkl2, ?_, hX2, he⟩, by simp [intOf]; omega⟩
          rw [HL2.out, HH2.out]; exact Y2.out
      · have HL2 := Lib.hid (HL.out.trans (if_neg h1))
        have Y2 := Y
        obtain ⟨y0, y1, p0, p1⟩ := Y
        go_wp2_with fail
        clear y0 y1 p0 p1
        have Y := Y2
        clear Y2
        obtain ⟨w6, hw6⟩ : ∃ w6, w6 = w5 := ⟨_, rfl⟩
        rw [← hw6] at c0 ck Y hX2 he ⊢
        clear hw6
        have y1 := Y.c1
        have hD : Ext w6 w6.drew := extA
        have hS : w6.drew.cell? ⟨g, 0, none⟩ = some (.slice (some ⟨b, off, none⟩) l.length cap) ∧ w6.drew.cell? ⟨b, off + k, none⟩ = some (txt t) ∧ w6.drew.cell? ⟨ob, 1, none⟩ = some (txt hi) := ⟨hD.cell c0, hD.cell ck, hD.cell y1⟩
        refine wp_region_heldE 99 (fun w' => w'.cell? ⟨g, 0, none⟩ = some (.slice (some ⟨b, off, none⟩) l.length cap) ∧ w'.cell? ⟨b, off + k, none⟩ = some (txt t) ∧ w'.cell? ⟨ob, 1, none⟩ = some (txt hi)) (by kernel_rfl) ?_
        have hd := hD
        generalize w6.drew = w7 at hD hS ⊢
        clear hd c0 ck y1
        ((refine eTk 0 ?_); (refine eTk 1 ?_); (refine eTk 2 ?_); (refine eTk 3 ?_); (refine eTk 4 ?_); (refine eTk 5 ?_); (refine eTk 6 ?_); (refine eTk 7 ?_); (refine eTk 8 ?_))
        (refine wpAnyE_one (i := 9) (o := ?_) ?_ (by kernel_rfl) (fun K hK => ?_); rotate_left; (focus ((simp only [List.getElem?_toArray, List.getElem?_cons_succ, List.getElem?_cons_zero]; exact rfl))); go_simp; go_at_call 57; refine (HO2.out _).mono ?_; rintro e w8 ⟨rfl, hE⟩; go_wp2_with fail; refine hK.out _ _ ?_ (fun hHeld => ?_); rotate_left; clear hK K; (try simp only [Act.put, List.setIfInBounds_toArray, List.set_cons_zero, List.set_cons_succ]))
        rotate_left
        · exact ⟨hE.cell hS.1, hE.cell hS.2.1, hE.cell hS.2.2⟩
        replace hD := hD.trans hE
        replace hS := And.intro (hE.cell hS.1) (And.intro (hE.cell hS.2.1) (hE.cell hS.2.2))
        clear hE hHeld
        ((refine ePu 10 ?_))
        refine wpAnyE_done (by kernel_rfl) ?_ _
        have c0 := hS.1
        have ck := hS.2.1
        clear hS
        replace Y := Y.ext hD
        replace hX2 := Lib.hid (hX2.out.ext hD)
        replace he := he.trans hD
        clear hD HO2
        have hkl2 : k + 1 ≤ l.length := hkl
        have hms : l.length - (k + 1) < l.length - k := by omega
        by_cases h2 : 0 < q2
        · have HH2 := Lib.hid (HH.out.trans (if_pos h2))
          have Y2 := Lib.hid (Y.set1 t)
          have X2' := Lib.hid (hX2.out.other (c := ob) (o := 1) (v := txt t) (by omega))
          have he2 := he.set (b := ob) (o := 1) (by omega) (txt t)
          obtain ⟨y0, y1, p0, p1⟩ := Y
          go_wp2
          refine ⟨⟨k + 1, by go_num, hkl2, ?_, X2'.out, he2⟩, by simp [intOf]; omega⟩
          rw [HL2.out, HH2.out]; exact Y2.out
        · have HH2 := Lib.hid (HH.out.trans (if_neg h2))
          have Y2 := Lib.hid Y
          obtain ⟨y0, y1, p0, p1⟩ := Y
          go_wp2
          refine ⟨⟨k + 1, by go_num, hkl2, ?_, hX2, he⟩, by simp [intOf]; omega⟩
          rw [HL2.out, HH2.out]; exact Y2.out
    · have hkk : ¬ (k : Int) < (l.length : Int) := by omega
      have HF : Hid (l.take k = l) := by show _ = _; exact List.take_of_length_le (by omega)
      have Y := hY.out
      have X3 := hX2.out
      rw [HF.out] at Y
      generalize lowL x0 l = lo at *
      generalize highL x0 l = hi at *
      obtain ⟨y0, y1, p0, p1⟩ := Y
      obtain ⟨d0, d1, g0, g1⟩ := X3
      clear hY hX2
      go_wp2_with fail
      refine bodyPost_ret (v := .tuple #[.agg #[txt lo, txt hi], .int .i64 0]) (by rw [results_cell_tmp1 rfl]; go_simp) rfl ?_
      exact ⟨by first | (rw [HR.out]; done) | (rw [HR.out]; rfl), extA⟩
theorem rEnds_any (g : Nat) (l : List Txt) (E : Nat) (w : World) (h : Four g w l E) (h0 : 0 < l.length) (hl : l.length ≤ 100) (hr : E = 0 → ∀ x ∈ l, fracE x = 0) :
    Calls Tryz.prog 132 #[.pointer (some ⟨g, 0, none⟩)] w (EncP (fourE l E) w) := by
  obtain ⟨v, x⟩ := h
  obtain ⟨a, cap, rfl, hcs⟩ := x.own.reads
  exact rEndsV_any g l E a cap w ⟨x.c0, x.c1, hcs⟩ h0 hl hr
end Go.Proofs.YtlnonmmaknhppaaGreatDoor
namespace Go.Proofs.YtlnonmmaknhppaaGreatDoor
open Go.RowKit
theorem four_new (W : World) (n : Nat) (hn : n = W.heap.size) : Four n (W.alloc (.cells #[.slice none 0 0, .int .i64 0] 175)) [] 0 := by
  subst hn
  exact ⟨.slice none 0 0, by go_simp, by go_simp, by go_simp, by go_simp, World.ownsRow_nil _ 0 _ _, fun b hb => by cases hb⟩
theorem EncAt.below {b n : Nat} {A B : World} {l h : Txt} (x : EncAt b A l h) (e : Below n A B) (hb : b < n) : EncAt b B l h :=
  ⟨cellB e (p := ⟨b, 0, none⟩) hb x.c0, cellB e (p := ⟨b, 1, none⟩) hb x.c1, (Below.frozen (p := ⟨b, 0, none⟩) e hb).trans x.f0, (Below.frozen (p := ⟨b, 1, none⟩) e hb).trans x.f1⟩
def E2 (r s : Res) : Nat := if (if (0 : Nat) = 0 then r.2 else 0) = 0 then s.2 else if (0 : Nat) = 0 then r.2 else 0
theorem E2_is (r s : Res) : E2 r s = if r.2 = 0 then s.2 else r.2 := rfl
theorem four_sort (r s : Res) : fourE [r.1, s.1] (E2 r s) = sortR r s := by
  rw [E2_is]
  by_cases h : r.2 = 0
  · rw [if_pos h]
    by_cases k : s.2 = 0
    · rw [sortR_good h k]; unfold fourE; rw [if_neg (not_not_intro k)]; rfl
    · unfold fourE sortR; rw [if_pos k, if_neg (not_not_intro h), if_pos k]
  · rw [if_neg h]
    unfold fourE sortR; rw [if_pos h, if_pos h]
theorem four_right {p q : Rat} (h : E2 (resQ p) (resQ q) = 0) : ∀ x ∈ [(resQ p).1, (resQ q).1], fracE x = 0 := by
  rw [E2_is] at h
  by_cases k : (resQ p).2 = 0
  · rw [if_pos k] at h
    intro x hx
    simp only [List.mem_cons, List.mem_nil_iff, or_false] at hx
    rcases hx with rfl | rfl
    · exact (resQ_right k).1
    · exact (resQ_right h).1
  · rw [if_neg k] at h; exact absurd h k
end Go.Proofs.YtlnonmmaknhppaaGreatDoor
namespace Go.Proofs.YtlnonmmaknhppaaGreatDoor
open Go.Lib (decDigits)
def pairAt (a b : Enc) (n : Nat) : Enc := ([a.1, a.2].getD (n / 2) [], [b.1, b.2].getD (n % 2) [])
def bestS (g : Bool) (a b : Enc) : Nat → Enc × Enc
  | 0 => (([], []), ([], []))
  | n + 1 => if n = 0 then (pairAt a b 0, pairAt a b 0)
    else (if beforeE (pairAt a b n) (bestS g a b n).1 g = true then pairAt a b n else (bestS g a b n).1, if beforeE (bestS g a b n).2 (pairAt a b n) g = true then pairAt a b n else (bestS g a b n).2)
theorem pairAt_ij (a b : Enc) (i j : Nat) (hj : j < 2) : pairAt a b (2 * i + j) = ([a.1, a.2].getD i [], [b.1, b.2].getD j []) := by
  unfold pairAt
  rw [show (2 * i + j) / 2 = i by omega, show (2 * i + j) % 2 = j by omega]
def valP (g : Bool) (p : Enc) : Rat := if g then fracQ p.1 / fracQ p.2 else fracQ p.1 * fracQ p.2
structure PairOk (g : Bool) (s : Bool) (p : Enc) : Prop where
  r : RightP p
  d : g = true → if s then 0 < fracQ p.2 else fracQ p.2 < 0
theorem before_is {g s : Bool} {p q : Enc} (hp : PairOk g s p) (hq : PairOk g s q) : beforeE p q g = decide (valP g p < valP g q) := by
  unfold beforeE valP
  cases g
  · simp only [Bool.false_eq_true, if_false]
    simp only [sgn_lt]
  · simp only [if_true]
    simp only [sgn_lt]
    have d1 := hp.d rfl
    have d2 := hq.d rfl
    generalize fracQ p.1 = a at *
    generalize fracQ p.2 = b at *
    generalize fracQ q.1 = c at *
    generalize fracQ q.2 = d at *
    have hb : b ≠ 0 := by cases s <;> grind
    have hd : d ≠ 0 := by cases s <;> grind
    have hbd : 0 < b * d := by
      cases s
      · have := Rat.mul_pos (show 0 < -b by grind) (show 0 < -d by grind)
        grind
      · exact Rat.mul_pos (by grind) (by grind)
    have e1 : a / b * (b * d) = a * d := by grind
    have e2 : c / d * (b * d) = c * b := by grind
    rw [← e1, ← e2]
    generalize a / b = x at *
    generalize c / d = y at *
    congr 1
    apply propext
    constructor
    · intro h
      rcases (Rat.le_total : y ≤ x ∨ x ≤ y) with k | k
      · have := mul_le k (Rat.le_of_lt hbd)
        grind
      · grind
    · intro h
      have := Rat.mul_pos (show 0 < y - x by grind) hbd
      grind
structure EndsOk (g s : Bool) (a b : Enc) : Prop where
  a1 : fracE a.1 = 0
  a2 : fracE a.2 = 0
  b1 : fracE b.1 = 0
  b2 : fracE b.2 = 0
  d1 : g = true → if s then 0 < fracQ b.1 else fracQ b.1 < 0
  d2 : g = true → if s then 0 < fracQ b.2 else fracQ b.2 < 0
theorem EndsOk.pair {g s : Bool} {a b : Enc} (h : EndsOk g s a b) {i j : Nat} (hi : i < 2) (hj : j < 2) : PairOk g s ([a.1, a.2].getD i [], [b.1, b.2].getD j []) := by
  rcases i with _ | _ | i
  · rcases j with _ | _ | j
    · exact ⟨⟨h.a1, h.b1⟩, h.d1⟩
    · exact ⟨⟨h.a1, h.b2⟩, h.d2⟩
    · omega
  · rcases j with _ | _ | j
    · exact ⟨⟨h.a2, h.b1⟩, h.d1⟩
    · exact ⟨⟨h.a2, h.b2⟩, h.d2⟩
    · omega
  · omega
theorem EndsOk.at {g s : Bool} {a b : Enc} (h : EndsOk g s a b) {n : Nat} (hn : n < 4) : PairOk g s (pairAt a b n) := h.pair (by omega) (by omega)
theorem EndsOk.best {g s : Bool} {a b : Enc} (h : EndsOk g s a b) : ∀ n, n < 4 → PairOk g s (bestS g a b (n + 1)).1 ∧ PairOk g s (bestS g a b (n + 1)).2
  | 0, _ => ⟨h.at (by omega), h.at (by omega)⟩
  | n + 1, hn => by
    obtain ⟨h1, h2⟩ := h.best n (by omega)
    have k := h.at hn
    show PairOk g s (if n + 1 = 0 then _ else _ : Enc × Enc).1 ∧ PairOk g s (if n + 1 = 0 then _ else _ : Enc × Enc).2
    rw [if_neg (by omega)]
    dsimp only
    constructor
    · split
      · exact k
      · exact h1
    · split
      · exact k
      · exact h2
theorem best_step {g s : Bool} {a b : Enc} (h : EndsOk g s a b) {n : Nat} (hn : n + 1 < 4) :
    valP g (bestS g a b (n + 2)).1 = lo2 (valP g (bestS g a b (n + 1)).1) (valP g (pairAt a b (n + 1))) ∧ valP g (bestS g a b (n + 2)).2 = hi2 (valP g (bestS g a b (n + 1)).2) (valP g (pairAt a b (n + 1))) := by
  obtain ⟨h1, h2⟩ := h.best n (by omega)
  have k := h.at hn
  have e : bestS g a b (n + 2) = (if beforeE (pairAt a b (n + 1)) (bestS g a b (n + 1)).1 g = true then pairAt a b (n + 1) else (bestS g a b (n + 1)).1, if beforeE (bestS g a b (n + 1)).2 (pairAt a b (n + 1)) g = true then pairAt a b (n + 1) else (bestS g a b (n + 1)).2) := by
    show (if n + 1 = 0 then _ else _ : Enc × Enc) = _
    rw [if_neg (by omega)]
  rw [e, before_is k h1, before_is h2 k]
  unfold lo2 hi2
  simp only [decide_eq_true_eq]
  constructor
  · split <;> rfl
  · split <;> rfl
theorem best_val {g s : Bool} {a b : Enc} (h : EndsOk g s a b) : valP g (bestS g a b 4).1 = lo4 (valP g (a.1, b.1)) (valP g (a.1, b.2)) (valP g (a.2, b.1)) (valP g (a.2, b.2)) ∧
    valP g (bestS g a b 4).2 = hi4 (valP g (a.1, b.1)) (valP g (a.1, b.2)) (valP g (a.2, b.1)) (valP g (a.2, b.2)) := by
  obtain ⟨k1, k2⟩ := best_step h (n := 2) (by omega)
  obtain ⟨k3, k4⟩ := best_step h (n := 1) (by omega)
  obtain ⟨k5, k6⟩ := best_step h (n := 0) (by omega)
  rw [k1, k3, k5, k2, k4, k6]
  exact ⟨rfl, rfl⟩
def opS (g : Bool) (p : Enc) : Res := if g then divS p.1 p.2 else mulS p.1 p.2
theorem opS_is {g s : Bool} {p : Enc} (h : PairOk g s p) : opS g p = resQ (valP g p) := by
  unfold opS valP
  cases g
  · exact mulS_right h.r.x h.r.y
  · exact divS_right h.r.x h.r.y (by have := h.d rfl; cases s <;> grind)
def extremeE (g : Bool) (a b : Enc) : EncR := sortR (opS g (bestS g a b 4).1) (opS g (bestS g a b 4).2)
theorem extreme_mul {a b : Enc} (ha : encE a = 0) (hb : encE b = 0) : EndsOk false true a b ∧ extremeE false a b = endsR (resQ (prodLo a b)) (resQ (prodHi a b)) := by
  have h : EndsOk false true a b := ⟨(enc_right ha).1, (enc_right ha).2.1, (enc_right hb).1, (enc_right hb).2.1, (fun e => by cases e), (fun e => by cases e)⟩
  refine ⟨h, ?_⟩
  unfold extremeE
  obtain ⟨b1, b2⟩ := best_val h
  rw [opS_is (h.best 3 (by omega)).1, opS_is (h.best 3 (by omega)).2, b1, b2]
  exact sortR_le (prod_le a b)
end Go.Proofs.YtlnonmmaknhppaaGreatDoor
namespace Go.Proofs.YtlnonmmaknhppaaGreatDoor
open Go.RowKit
structure BestI (n0 : Nat) (W : World) (l h m k : Txt) (s : Enc × Enc) : Prop where
  b : EncAt (n0 + 1) W m k
  x : EncAt (n0 + 1 + 1) W [] []
  best : FourAt (n0 + 1 + 1 + 1) W s.1.1 s.1.2 s.2.1 s.2.2
  sl : EncAt (n0 + 1 + 1 + 1 + 1) W l h
theorem BestI.ext {n0 : Nat} {A B : World} {l h m k : Txt} {s : Enc × Enc} (x : BestI n0 A l h m k s) (e : Ext A B) : BestI n0 B l h m k s := ⟨x.b.ext e, x.x.ext e, x.best.ext e, x.sl.ext e⟩
theorem BestI.lo {n0 : Nat} {A : World} {l h m k : Txt} {s : Enc × Enc} (x : BestI n0 A l h m k s) (p q : Txt) : BestI n0 ((A.setCell ⟨n0 + 1 + 1 + 1, 0, none⟩ (txt p)).setCell ⟨n0 + 1 + 1 + 1, 1, none⟩ (txt q)) l h m k ((p, q), s.2) :=
  ⟨(x.b.other (by omega)).other (by omega), (x.x.other (by omega)).other (by omega), (x.best.set0 p).set1 q, (x.sl.other (by omega)).other (by omega)⟩
theorem BestI.hi {n0 : Nat} {A : World} {l h m k : Txt} {s : Enc × Enc} (x : BestI n0 A l h m k s) (p q : Txt) : BestI n0 ((A.setCell ⟨n0 + 1 + 1 + 1, 2, none⟩ (txt p)).setCell ⟨n0 + 1 + 1 + 1, 3, none⟩ (txt q)) l h m k (s.1, (p, q)) :=
  ⟨(x.b.other (by omega)).other (by omega), (x.x.other (by omega)).other (by omega), (x.best.set2 p).set3 q, (x.sl.other (by omega)).other (by omega)⟩
theorem EncAt.two {b c o1 o2 : Nat} {A : World} {l h : Txt} {v u : Value} (x : EncAt b A l h) (hn : b ≠ c) : EncAt b ((A.setCell ⟨c, o1, none⟩ v).setCell ⟨c, o2, none⟩ u) l h := (x.other hn).other hn
theorem encAt_new (W : World) (n : Nat) (hn : n = W.heap.size) (p q : Txt) (t : TypeId) : EncAt n (W.alloc (.cells #[txt p, txt q] t)) p q := by
  subst hn
  exact ⟨by go_simp, by go_simp, by go_simp, by go_simp⟩
theorem EncAt.get {b : Nat} {W : World} {l h : Txt} (x : EncAt b W l h) {i : Nat} (hi : i < 2) : W.cell? ⟨b, i, none⟩ = some (txt ([l, h].getD i [])) := by
  rcases i with _ | _ | i
  · exact x.c0
  · exact x.c1
  · omega
set_option maxHeartbeats 16000000 in
set_option maxRecDepth 100000 in
theorem rExtreme_any (a b : Enc) (g sg : Bool) (w : World) (hOk : EndsOk g sg a b) : Calls Tryz.prog 123 #[encV a, encV b, .bool g] w (EncP (extremeE g a b) w) := by
  have HB : Hid (∀ p q, PairOk g sg p → PairOk g sg q → ∀ W, Calls Tryz.prog 161 #[.agg #[txt p.1, txt p.2], .agg #[txt q.1, txt q.2], .bool g] W fun e w' => e = .returned (.bool (beforeE p q g)) ∧ Ext W w') :=
    fun p q hp hq W => rBefore_any p q g W hp.r hq.r
  have HOK := Lib.hid hOk
  clear hOk
  obtain ⟨C, hC⟩ : ∃ C, C = extremeE g a b := ⟨_, rfl⟩
  unfold EncP
  rw [← hC]
  have HC := Lib.hid hC
  clear hC
  obtain ⟨l, h⟩ := a
  obtain ⟨m, k⟩ := b
  dsimp only [encV]
  have I0 : BestI w.heap.size (((((w.alloc (.cells #[txt l, txt h] 35)).alloc (.cells #[txt m, txt k] 35)).alloc (.cells #[.string ⟨#[]⟩, .string ⟨#[]⟩] 35)).alloc (.cells #[.string ⟨#[]⟩, .string ⟨#[]⟩, .string ⟨#[]⟩, .string ⟨#[]⟩] 125)).alloc (.cells #[txt l, txt h] 23)) l h m k (([], []), ([], [])) := ⟨⟨by go_simp, by go_simp, by go_simp, by go_simp⟩, ⟨by go_simp, by go_simp, by go_simp, by go_simp⟩, ⟨by go_simp, by go_simp, by go_simp, by go_simp, by go_simp, by go_simp, by go_simp, by go_simp⟩, ⟨by go_simp, by go_simp, by go_simp, by go_simp⟩⟩
  have E0 : Ext w (((((w.alloc (.cells #[txt l, txt h] 35)).alloc (.cells #[txt m, txt k] 35)).alloc (.cells #[.string ⟨#[]⟩, .string ⟨#[]⟩] 35)).alloc (.cells #[.string ⟨#[]⟩, .string ⟨#[]⟩, .string ⟨#[]⟩, .string ⟨#[]⟩] 125)).alloc (.cells #[txt l, txt h] 23)) := extA
  go_enter Tryz.func123, Tryz.ntmps123
  go_wp2
  generalize (((((w.alloc (.cells #[txt l, txt h] 35)).alloc (.cells #[txt m, txt k] 35)).alloc (.cells #[.string ⟨#[]⟩, .string ⟨#[]⟩] 35)).alloc (.cells #[.string ⟨#[]⟩, .string ⟨#[]⟩, .string ⟨#[]⟩, .string ⟨#[]⟩] 125)).alloc (.cells #[txt l, txt h] 23)) = w0 at I0 E0 ⊢
  go_loopw [9, 24] (fun f i wr => ∃ (n : Nat) (fb : Bool), i = .int .i64 (n : Nat) ∧ f = .bool fb ∧ n ≤ 2 ∧ fb = decide (0 < n) ∧ Hid (BestI w.heap.size wr l h m k (bestS g (l, h) (m, k) (2 * n))) ∧ Ext w wr) (fun _ i _ => 2 - (intOf i).toNat)
  case atStart => exact ⟨0, false, rfl, rfl, by omega, by simp, I0, E0⟩
  case round =>
    obtain ⟨n, fb, rfl, rfl, hn, hfb, hI, he⟩ := hrel
    by_cases hn2 : n < 2
    · have hni : (n : Int) < 2 := by omega
      have hnw : IntKind.i64.wrap ((n : Int) + 1) = (n : Int) + 1 := by rw [IntKind.wrap_i64]; omega
      have I := hI.out
      have hsl := I.sl.get hn2
      obtain ⟨m0, m1, _, _⟩ := I.b
      have z1 := cell_lt m0
      have z2 := cell_lt hsl
      dsimp only at z1 z2
      obtain ⟨x, hx⟩ : ∃ x, x = [l, h].getD n [] := ⟨_, rfl⟩
      rw [← hx] at hsl
      have HX := Lib.hid hx
      clear hx hI
      obtain ⟨sb, hsb⟩ : ∃ sb, sb = wr.heap.size := ⟨_, rfl⟩
      have S2 := encAt_new wr sb hsb m k 23
      have EA : Ext wr (wr.alloc (.cells #[txt m, txt k] 23)) := extA
      have I1 := I.ext EA
      have he1 := he.trans EA
      have z4 : w.heap.size + 1 + 1 + 1 < sb := by rw [hsb]; exact cell_lt I.best.c0
      go_wp2
      rw [← hsb]
      clear I m0 m1 z1 z2 hsl he
      generalize (wr.alloc (.cells #[txt m, txt k] 23)) = w1 at S2 I1 he1 ⊢
      clear EA hsb
      go_loopw [9, 34] (fun f i wr => ∃ (j : Nat) (fb : Bool), i = .int .i64 (j : Nat) ∧ f = .bool fb ∧ j ≤ 2 ∧ fb = decide (0 < 2 * n + j) ∧ Hid (BestI w.heap.size wr l h m k (bestS g (l, h) (m, k) (2 * n + j))) ∧ Hid (EncAt sb wr m k) ∧ Ext w wr) (fun _ i _ => 2 - (intOf i).toNat)
      case atStart => exact ⟨0, fb, rfl, rfl, by omega, by rw [hfb]; congr 1; simp, I1, S2, he1⟩
      case round =>
        obtain ⟨j, fb, rfl, rfl, hj, hfb2, hI, hS2, he⟩ := hrel
        by_cases hj2 : j < 2
        · have hji : (j : Int) < 2 := by omega
          have hjw : IntKind.i64.wrap ((j : Int) + 1) = (j : Int) + 1 := by rw [IntKind.wrap_i64]; omega
          have hsl := hS2.out.get hj2
          obtain ⟨y, hy⟩ : ∃ y, y = [m, k].getD j [] := ⟨_, rfl⟩
          rw [← hy] at hsl
          have hpair : pairAt (l, h) (m, k) (2 * n + j) = (x, y) := by rw [pairAt_ij _ _ _ _ hj2, HX.out, hy]
          have HP : Hid (PairOk g sg (x, y)) := by have := HOK.out.pair hn2 hj2; dsimp only at this; rw [← HX.out, ← hy] at this; exact this
          clear hy
          have z3 := cell_lt hsl
          dsimp only at z3
          have hwz := he.size
          have z5 : w.heap.size + 1 + 1 + 1 < wr.heap.size := by omega
          obtain ⟨pb, hpb⟩ : ∃ pb, pb = wr.heap.size := ⟨_, rfl⟩
          have P := encAt_new wr pb hpb x y 124
          have EA : Ext wr (wr.alloc (.cells #[txt x, txt y] 124)) := extA
          have I := hI.out.ext EA
          have S2 := hS2.out.ext EA
          have he0 := he
          replace he := he.trans EA
          have z6 : w.heap.size + 1 + 1 + 1 < pb := by omega
          have z7 : sb < pb := by omega
          clear EA
          by_cases hN : 2 * n + j = 0
          · have hff : fb = false := by rw [hfb2, hN]; rfl
            subst hff
            have HS : Hid (bestS g (l, h) (m, k) (2 * n + (j + 1)) = ((x, y), (x, y))) := by
              show _ = _
              rw [show 2 * n + (j + 1) = (2 * n + j) + 1 by omega, hN]
              show (if (0 : Nat) = 0 then _ else _ : Enc × Enc) = _
              rw [if_pos rfl, ← hN, hpair]
            have I4 := Lib.hid (((hI.out.lo x y).hi x y).ext ((Ext.refl _).alloc (.cells #[txt x, txt y] 124)))
            have S4 := Lib.hid (((hS2.out.two (c := w.heap.size + 1 + 1 + 1) (o1 := 0) (v := txt x) (o2 := 1) (u := txt y) (by omega)).two (c := w.heap.size + 1 + 1 + 1) (o1 := 2) (v := txt x) (o2 := 3) (u := txt y) (by omega)).ext ((Ext.refl _).alloc (.cells #[txt x, txt y] 124)))
            have he4 := ((((he0.set (b := w.heap.size + 1 + 1 + 1) (o := 0) (by omega) (txt x)).set (b := w.heap.size + 1 + 1 + 1) (o := 1) (by omega) (txt y)).set (b := w.heap.size + 1 + 1 + 1) (o := 2) (by omega) (txt x)).set (b := w.heap.size + 1 + 1 + 1) (o := 3) (by omega) (txt y)).trans ((Ext.refl _).alloc (.cells #[txt x, txt y] 124))
            obtain ⟨b0, b1, b2, b3, f0, f1, f2, f3⟩ := hI.out.best
            clear I S2 he hI hpair hfb2 HP P hS2 he0
            go_wp2
            refine ⟨⟨j + 1, true, by go_num, rfl, by omega, by rw [decide_eq_true (by omega)], ?_, S4, he4⟩, by simp [intOf]; omega⟩
            rw [HS.out]
            exact I4
          · have hft : fb = true := by rw [hfb2, decide_eq_true (by omega)]
            subst hft
            have HB1 := HOK.out.best (2 * n + j - 1) (by omega)
            rw [show 2 * n + j - 1 + 1 = 2 * n + j by omega] at HB1
            have hst : bestS g (l, h) (m, k) (2 * n + (j + 1)) = (if beforeE (x, y) (bestS g (l, h) (m, k) (2 * n + j)).1 g = true then (x, y) else (bestS g (l, h) (m, k) (2 * n + j)).1, if beforeE (bestS g (l, h) (m, k) (2 * n + j)).2 (x, y) g = true then (x, y) else (bestS g (l, h) (m, k) (2 * n + j)).2) := by
              rw [show 2 * n + (j + 1) = (2 * n + j) + 1 by omega]
              show (if 2 * n + j = 0 then _ else _ : Enc × Enc) = _
              rw [if_neg hN, hpair]
            have H1 := Lib.hid (fun W => HB.out (x, y) (bestS g (l, h) (m, k) (2 * n + j)).1 HP.out HB1.1 W)
            have H2 := Lib.hid (fun W => HB.out (bestS g (l, h) (m, k) (2 * n + j)).2 (x, y) HB1.2 HP.out W)
            generalize bestS g (l, h) (m, k) (2 * n + j) = s at *
            obtain ⟨⟨s1, s2⟩, s3, s4⟩ := s
            dsimp only at H1 H2 hst
            generalize beforeE (x, y) (s1, s2) g = r1 at *
            generalize beforeE (s3, s4) (x, y) g = r2 at *
            have HS := Lib.hid hst
            obtain ⟨b0, b1, b2, b3, f0, f1, f2, f3⟩ := hI.out.best
            clear hst hfb2 hpair HP HB1 hI hN hS2 he0
            go_wp2_with fail
            clear b0 b1 b2 b3 f0 f1 f2 f3
            rw [← hpb]
            generalize (wr.alloc (.cells #[txt x, txt y] 124)) = wb at P I S2 he ⊢
            clear hpb z3 z5 hsl hwz
            refine (H1.out _).mono ?_
            clear H1
            rintro e wc ⟨rfl, hE⟩
            replace P := P.ext hE
            replace I := I.ext hE
            replace S2 := S2.ext hE
            replace he := he.trans hE
            clear hE
            have z8 := cell_lt P.c0
            dsimp only at z8
            obtain ⟨p0, p1, q0, q1⟩ := P
            obtain ⟨b0, b1, b2, b3, f0, f1, f2, f3⟩ := I.best
            cases r1
            · go_wp2_with fail
              refine (H2.out _).mono ?_
              clear b0 b1 b2 b3 f0 f1 f2 f3 H2
              rintro e wd ⟨rfl, hE⟩
              have P := (EncAt.mk p0 p1 q0 q1).ext hE
              replace I := I.ext hE
              replace S2 := S2.ext hE
              replace he := he.trans hE
              clear hE p0 p1 q0 q1
              have z9 := cell_lt P.c0
              dsimp only at z9
              obtain ⟨p0, p1, _, _⟩ := P
              obtain ⟨b0, b1, b2, b3, f0, f1, f2, f3⟩ := I.best
              cases r2
              · go_wp2
                refine ⟨⟨j + 1, true, by go_num, rfl, by omega, by rw [decide_eq_true (by omega)], ?_, S2, he⟩, by simp [intOf]; omega⟩
                rw [HS.out]
                exact I
              · have I5 := Lib.hid (I.hi x y)
                have S5 := Lib.hid (S2.two (c := w.heap.size + 1 + 1 + 1) (o1 := 2) (v := txt x) (o2 := 3) (u := txt y) (by omega))
                have he5 := (he.set (b := w.heap.size + 1 + 1 + 1) (o := 2) (by omega) (txt x)).set (b := w.heap.size + 1 + 1 + 1) (o := 3) (by omega) (txt y)
                clear I S2 he
                go_wp2
                refine ⟨⟨j + 1, true, by go_num, rfl, by omega, by rw [decide_eq_true (by omega)], ?_, S5.out, he5⟩, by simp [intOf]; omega⟩
                rw [HS.out]
                exact I5.out
            · go_wp2_with fail
              replace I := I.lo x y
              replace S2 := S2.two (c := w.heap.size + 1 + 1 + 1) (o1 := 0) (v := txt x) (o2 := 1) (u := txt y) (by omega)
              have P := (EncAt.mk p0 p1 q0 q1).two (c := w.heap.size + 1 + 1 + 1) (o1 := 0) (v := txt x) (o2 := 1) (u := txt y) (by omega)
              replace he := (he.set (b := w.heap.size + 1 + 1 + 1) (o := 0) (by omega) (txt x)).set (b := w.heap.size + 1 + 1 + 1) (o := 1) (by omega) (txt y)
              clear b0 b1 b2 b3 f0 f1 f2 f3 p0 p1 q0 q1 z8
              generalize ((wc.setCell ⟨w.heap.size + 1 + 1 + 1, 0, none⟩ (txt x)).setCell ⟨w.heap.size + 1 + 1 + 1, 1, none⟩ (txt y)) = wc at P I S2 he ⊢
              refine (H2.out _).mono ?_
              clear H2
              rintro e wd ⟨rfl, hE⟩
              replace P := P.ext hE
              replace I := I.ext hE
              replace S2 := S2.ext hE
              replace he := he.trans hE
              clear hE
              have z9 := cell_lt P.c0
              dsimp only at z9
              obtain ⟨p0, p1, _, _⟩ := P
              obtain ⟨b0, b1, b2, b3, f0, f1, f2, f3⟩ := I.best
              cases r2
              · go_wp2
                refine ⟨⟨j + 1, true, by go_num, rfl, by omega, by rw [decide_eq_true (by omega)], ?_, S2, he⟩, by simp [intOf]; omega⟩
                rw [HS.out]
                exact I
              · have I5 := Lib.hid (I.hi x y)
                have S5 := Lib.hid (S2.two (c := w.heap.size + 1 + 1 + 1) (o1 := 2) (v := txt x) (o2 := 3) (u := txt y) (by omega))
                have he5 := (he.set (b := w.heap.size + 1 + 1 + 1) (o := 2) (by omega) (txt x)).set (b := w.heap.size + 1 + 1 + 1) (o := 3) (by omega) (txt y)
                clear I S2 he
                go_wp2
                refine ⟨⟨j + 1, true, by go_num, rfl, by omega, by rw [decide_eq_true (by omega)], ?_, S5.out, he5⟩, by simp [intOf]; omega⟩
                rw [HS.out]
                exact I5.out
        · have hj3 : j = 2 := by omega
          subst hj3
          have hji : ¬ (((2 : Nat) : Int) < 2) := by omega
          clear hS2
          go_wp2
          refine ⟨⟨n + 1, fb, by go_num, rfl, by omega, ?_, hI.out, he⟩, by simp [intOf]; omega⟩
          rw [hfb2, decide_eq_true (by omega), decide_eq_true (by omega)]
    · have hn3 : n = 2 := by omega
      subst hn3
      have hni : ¬ (((2 : Nat) : Int) < 2) := by omega
      have hs4 : bestS g (l, h) (m, k) (2 * 2) = bestS g (l, h) (m, k) 4 := rfl
      rw [hs4] at hI
      obtain ⟨k1, k2⟩ := HOK.out.best 3 (by omega)
      have q1 := opS_is k1
      have q2 := opS_is k2
      have hC := HC.out
      unfold extremeE at hC
      rw [← four_sort] at hC
      have HRT := Lib.hid (four_right (p := valP g (bestS g (l, h) (m, k) (3 + 1)).1) (q := valP g (bestS g (l, h) (m, k) (3 + 1)).2))
      rw [← q1, ← q2] at HRT
      have H1 : Hid (∀ W, Calls Tryz.prog (bif g then 162 else 163) #[txt (bestS g (l, h) (m, k) 4).1.1, txt (bestS g (l, h) (m, k) 4).1.2] W (ResP (opS g (bestS g (l, h) (m, k) 4).1) W)) := fun W => by
        unfold opS
        cases g
        · exact rMul_any _ _ W (len_right k1.r.x) (len_right k1.r.y)
        · exact rDiv_any _ _ W (len_right k1.r.x) (len_right k1.r.y)
      have H2 : Hid (∀ W, Calls Tryz.prog (bif g then 162 else 163) #[txt (bestS g (l, h) (m, k) 4).2.1, txt (bestS g (l, h) (m, k) 4).2.2] W (ResP (opS g (bestS g (l, h) (m, k) 4).2) W)) := fun W => by
        unfold opS
        cases g
        · exact rMul_any _ _ W (len_right k2.r.x) (len_right k2.r.y)
        · exact rDiv_any _ _ W (len_right k2.r.x) (len_right k2.r.y)
      unfold ResP at H1 H2
      change C = fourE [(opS g (bestS g (l, h) (m, k) 4).1).1, (opS g (bestS g (l, h) (m, k) 4).2).1] (E2 (opS g (bestS g (l, h) (m, k) 4).1) (opS g (bestS g (l, h) (m, k) 4).2)) at hC
      change Hid (E2 (opS g (bestS g (l, h) (m, k) 4).1) (opS g (bestS g (l, h) (m, k) 4).2) = 0 → ∀ x ∈ [(opS g (bestS g (l, h) (m, k) 4).1).1, (opS g (bestS g (l, h) (m, k) 4).2).1], fracE x = 0) at HRT
      generalize opS g (bestS g (l, h) (m, k) 4).1 = r at H1 hC HRT
      generalize opS g (bestS g (l, h) (m, k) 4).2 = s at H2 hC HRT
      generalize bestS g (l, h) (m, k) 4 = S at H1 H2 hI
      obtain ⟨⟨s1, s2⟩, s3, s4⟩ := S
      obtain ⟨r, re⟩ := r
      obtain ⟨s, se⟩ := s
      dsimp only at H1 H2 hC HRT
      have hi0 : ∀ W, (Instr.index 125 (.agg #[txt s1, txt s2, txt s3, txt s4]) (.int .i64 0)).run Tryz.prog W = .ok (.agg #[txt s1, txt s2]) W := fun W => by simp [Instr.index, go_sem]
      have hi1 : ∀ W, (Instr.index 125 (.agg #[txt s1, txt s2, txt s3, txt s4]) (.int .i64 1)).run Tryz.prog W = .ok (.agg #[txt s3, txt s4]) W := fun W => by simp [Instr.index, go_sem]
      generalize hEE : E2 (r, re) (s, se) = EE at hC HRT
      have HEE := Lib.hid hEE
      have HR := Lib.hid hC
      clear hEE hC k1 k2 q1 q2 hs4 HB HOK HC hn hfb
      obtain ⟨_, X, D, _⟩ := hI.out
      clear hI
      have E := he
      clear he
      have z1 := cell_lt X.c0
      have z2 := cell_lt D.c0
      dsimp only at z1 z2
      obtain ⟨gb, hgb⟩ : ∃ gb, gb = wr.heap.size := ⟨_, rfl⟩
      have hg2 : w.heap.size + 1 + 1 < gb := by omega
      have hgl : w.heap.size ≤ gb := by omega
      have FO := four_new wr gb hgb
      have EA : Ext wr (wr.alloc (.cells #[.slice none 0 0, .int .i64 0] 175)) := extA
      obtain ⟨b0, b1, b2, b3, _, _, _, _⟩ := D
      replace X := X.ext EA
      replace E := E.trans EA
      go_wp2_with fail
      rw [← hgb]
      generalize (wr.alloc (.cells #[.slice none 0 0, .int .i64 0] 175)) = w1 at FO X E ⊢
      clear EA hgb b0 b1 b2 b3 z1 z2
      have hg := hgl
      clear hgl
      cases g
      all_goals
        refine wp_loop_rounds 3 ?_
        rw [rounds_succ]
        have EAw1 : Ext w1 (w1.alloc (.cells #[txt s1, txt s2] 124)) := extA
        replace FO := FO.ext EAw1
        replace X := X.ext EAw1
        replace E := E.trans EAw1
        go_wp2_with fail
        generalize (w1.alloc (.cells #[txt s1, txt s2] 124)) = w1a at FO X E ⊢
        clear EAw1
        refine (H1.out _).mono ?_
        clear H1
        rintro e w1b ⟨rfl, hE⟩
        replace FO := FO.ext hE
        replace X := X.ext hE
        replace E := E.trans hE
        clear hE
        go_wp2_with fail
        have K := rWith_any gb [] 0 re r w1b FO (Nat.le_of_ble_eq_true rfl)
        refine K.mono ?_
        clear K FO
        rintro e w1c ⟨rfl, FO, hB⟩
        replace X := X.below hB hg2
        replace E := E.trans' hB hg
        clear hB
        go_wp2_with fail
        rw [rounds_succ]
        have EAw1c : Ext w1c (w1c.alloc (.cells #[txt s3, txt s4] 124)) := extA
        replace FO := FO.ext EAw1c
        replace X := X.ext EAw1c
        replace E := E.trans EAw1c
        go_wp2_with fail
        generalize (w1c.alloc (.cells #[txt s3, txt s4] 124)) = w1ca at FO X E ⊢
        clear EAw1c
        refine (H2.out _).mono ?_
        clear H2
        rintro e w1cb ⟨rfl, hE⟩
        replace FO := FO.ext hE
        replace X := X.ext hE
        replace E := E.trans hE
        clear hE
        go_wp2_with fail
        have K := rWith_any gb ([] ++ [r]) _ se s w1cb FO (Nat.le_of_ble_eq_true rfl)
        refine K.mono ?_
        clear K FO
        rintro e w1cc ⟨rfl, FO, hB⟩
        replace X := X.below hB hg2
        replace E := E.trans' hB hg
        clear hB
        go_wp2_with fail
        have FO2 : Four gb w1cc [r, s] EE := by rw [← HEE.out]; exact FO
        clear FO
        rw [rounds_succ]
        go_wp2_with fail
        refine (rEnds_any gb [r, s] EE w1cc FO2 (Nat.zero_lt_succ _) (by simp) HRT.out).mono ?_
        unfold EncP
        rw [← HR.out]
        clear HR HRT FO2 HEE
        obtain ⟨⟨y0, y1⟩, y2⟩ := C
        rintro e w7 ⟨rfl, hE⟩
        replace X := X.ext hE
        replace E := E.trans hE
        obtain ⟨x0, x1, f0, f1⟩ := X
        go_wp2_with fail
        refine bodyPost_ret (v := .tuple #[.agg #[txt y0, txt y1], .int .i64 (y2 : Nat)]) (by rw [results_cell_tmp1 rfl]; go_simp) rfl ?_
        exact ⟨rfl, extA⟩
end Go.Proofs.YtlnonmmaknhppaaGreatDoor
namespace Go.Proofs.YtlnonmmaknhppaaGreatDoor
open Go.RowKit
set_option maxHeartbeats 8000000 in
set_option maxRecDepth 100000 in
theorem rMul2_any (a b : Enc) (w : World) (hl : LenE a) (hm : LenE b) : Calls Tryz.prog 81 #[encV a, encV b] w (EncP (mulE a b) w) := by
  have HB := Lib.hid (fun W => rBoth2_any a b W hl hm)
  obtain ⟨C, hC⟩ : ∃ C, C = mulE a b := ⟨_, rfl⟩
  unfold EncP
  rw [← hC]
  unfold mulE at hC
  have hne0 : (((0 : Nat) : Int) != 0) = false := rfl
  obtain ⟨l, h⟩ := a
  obtain ⟨m, k⟩ := b
  obtain ⟨e, he⟩ : ∃ e, e = bothEE (l, h) (m, k) := ⟨_, rfl⟩
  rw [← he] at HB hC
  dsimp only [encV] at HB hC ⊢
  have c0 : (((w.alloc (.cells #[txt l, txt h] 35)).alloc (.cells #[txt m, txt k] 35)).alloc (.cells #[.string ⟨#[]⟩, .string ⟨#[]⟩] 35)).cell? ⟨w.heap.size, 0, none⟩ = some (txt l) := by go_simp
  have c1 : (((w.alloc (.cells #[txt l, txt h] 35)).alloc (.cells #[txt m, txt k] 35)).alloc (.cells #[.string ⟨#[]⟩, .string ⟨#[]⟩] 35)).cell? ⟨w.heap.size, 1, none⟩ = some (txt h) := by go_simp
  have c2 : (((w.alloc (.cells #[txt l, txt h] 35)).alloc (.cells #[txt m, txt k] 35)).alloc (.cells #[.string ⟨#[]⟩, .string ⟨#[]⟩] 35)).cell? ⟨w.heap.size + 1, 0, none⟩ = some (txt m) := by go_simp
  have c3 : (((w.alloc (.cells #[txt l, txt h] 35)).alloc (.cells #[txt m, txt k] 35)).alloc (.cells #[.string ⟨#[]⟩, .string ⟨#[]⟩] 35)).cell? ⟨w.heap.size + 1, 1, none⟩ = some (txt k) := by go_simp
  have X : EncAt (w.heap.size + 1 + 1) (((w.alloc (.cells #[txt l, txt h] 35)).alloc (.cells #[txt m, txt k] 35)).alloc (.cells #[.string ⟨#[]⟩, .string ⟨#[]⟩] 35)) [] [] := ⟨by go_simp, by go_simp, by go_simp, by go_simp⟩
  have E : Ext w (((w.alloc (.cells #[txt l, txt h] 35)).alloc (.cells #[txt m, txt k] 35)).alloc (.cells #[.string ⟨#[]⟩, .string ⟨#[]⟩] 35)) := extA
  go_enter Tryz.func81, Tryz.ntmps81
  go_wp2_with fail
  generalize (((w.alloc (.cells #[txt l, txt h] 35)).alloc (.cells #[txt m, txt k] 35)).alloc (.cells #[.string ⟨#[]⟩, .string ⟨#[]⟩] 35)) = w0 at c0 c1 c2 c3 X E ⊢
  refine (HB.out w0).mono ?_
  clear HB
  rintro e' w1 ⟨rfl, hE⟩
  replace c0 := hE.cell c0
  replace c1 := hE.cell c1
  replace c2 := hE.cell c2
  replace c3 := hE.cell c3
  replace X := X.ext hE
  replace E := E.trans hE
  clear hE
  by_cases e0 : e = 0
  rotate_left
  · rw [if_pos e0] at hC
    have HR : Hid (C = (([], []), e)) := hC
    have hne : (((e : Nat) : Int) != 0) = true := by rw [bne_iff_ne]; omega
    clear hC c0 c1 c2 c3 he e0 hl hm
    obtain ⟨x0, x1, f0, f1⟩ := X
    go_wp2_with fail
    refine bodyPost_ret (v := .tuple #[.agg #[txt [], txt []], .int .i64 (e : Nat)]) (by rw [results_cell_tmp1 rfl]; go_simp) rfl ?_
    exact ⟨by first | (rw [HR.out]; done) | (rw [HR.out]; rfl), extA⟩
  subst e0
  rw [if_neg (by decide)] at hC
  obtain ⟨ha, hb⟩ := bothEE_two he.symm
  clear he
  obtain ⟨hok, hx⟩ := extreme_mul ha hb
  have HX := Lib.hid (fun W => rExtreme_any (l, h) (m, k) false true W hok)
  rw [hx] at HX
  unfold EncP at HX
  generalize endsR (resQ (prodLo (l, h) (m, k))) (resQ (prodHi (l, h) (m, k))) = R at *
  obtain ⟨⟨r1, r2⟩, r3⟩ := R
  have HR := Lib.hid hC
  clear hC ha hb hl hm hok hx
  dsimp only [encV] at HX
  go_wp2_with fail
  refine (HX.out _).mono ?_
  rintro e w2 ⟨rfl, hE⟩
  clear c0 c1 c2 c3
  replace X := X.ext hE
  replace E := E.trans hE
  obtain ⟨x0, x1, f0, f1⟩ := X
  go_wp2_with fail
  refine bodyPost_ret (v := .tuple #[.agg #[txt r1, txt r2], .int .i64 (r3 : Nat)]) (by rw [results_cell_tmp1 rfl]; go_simp) rfl ?_
  exact ⟨by first | (rw [HR.out]; done) | (rw [HR.out]; rfl), extA⟩
end Go.Proofs.YtlnonmmaknhppaaGreatDoor
namespace Go.Proofs.YtlnonmmaknhppaaGreatDoor
open Go.RowKit
def cylV (c : Cyl) : Value := .agg #[.int .i64 c.bore, .int .i64 c.rod, .int .i64 c.stroke]
theorem cylE_yes {c : Cyl} (h : cylB c = true) : cylE c = 2 := by unfold cylE; rw [if_pos h]
theorem cylE_no {c : Cyl} (h : cylB c = false) : cylE c = 0 := by unfold cylE; rw [if_neg (by rw [h]; simp)]
set_option maxHeartbeats 4000000 in
theorem aCheck_any (c : Cyl) (w : World) : Calls Tryz.prog 28 #[cylV c] w fun e w' => e = .returned (.int .i64 (cylE c : Nat)) ∧ Ext w w' := by
  obtain ⟨b, r, s⟩ := c
  obtain ⟨q, hq⟩ : ∃ q, q = cylE ⟨b, r, s⟩ := ⟨_, rfl⟩
  rw [← hq]
  dsimp only [cylV]
  have E : Ext w (w.alloc (.cells #[.int .i64 b, .int .i64 r, .int .i64 s] 49)) := extA
  by_cases h0 : b < 1
  · have H : Hid (q = 2) := by show _ = _; rw [hq]; exact cylE_yes (by unfold cylB; simp [h0])
    clear hq
    go_enter Tryz.func28, Tryz.ntmps28
    go_wp2
    go_ret
    exact ⟨by rw [H.out]; rfl, E⟩
  by_cases h1 : 500 < b
  · have H : Hid (q = 2) := by show _ = _; rw [hq]; exact cylE_yes (by unfold cylB; simp [h1])
    clear hq
    go_enter Tryz.func28, Tryz.ntmps28
    go_wp2
    go_ret
    exact ⟨by rw [H.out]; rfl, E⟩
  by_cases h2 : r < 0
  · have H : Hid (q = 2) := by show _ = _; rw [hq]; exact cylE_yes (by unfold cylB; simp [h2])
    clear hq
    go_enter Tryz.func28, Tryz.ntmps28
    go_wp2
    go_ret
    exact ⟨by rw [H.out]; rfl, E⟩
  by_cases h3 : b ≤ r
  · have H : Hid (q = 2) := by show _ = _; rw [hq]; exact cylE_yes (by unfold cylB; simp [h3])
    clear hq
    go_enter Tryz.func28, Tryz.ntmps28
    go_wp2
    go_ret
    exact ⟨by rw [H.out]; rfl, E⟩
  by_cases h4 : s < 1
  · have H : Hid (q = 2) := by show _ = _; rw [hq]; exact cylE_yes (by unfold cylB; simp [h4])
    clear hq
    go_enter Tryz.func28, Tryz.ntmps28
    go_wp2
    go_ret
    exact ⟨by rw [H.out]; rfl, E⟩
  by_cases h5 : 3000 < s
  · have H : Hid (q = 2) := by show _ = _; rw [hq]; exact cylE_yes (by unfold cylB; simp [h5])
    clear hq
    go_enter Tryz.func28, Tryz.ntmps28
    go_wp2
    go_ret
    exact ⟨by rw [H.out]; rfl, E⟩
  have H : Hid (q = 0) := by show _ = _; rw [hq]; exact cylE_no (by unfold cylB; simp [h0, h1, h2, h3, h4, h5])
  clear hq
  go_enter Tryz.func28, Tryz.ntmps28
  go_wp2
  go_ret
  exact ⟨by rw [H.out]; rfl, E⟩
def presE1 (p : Int) : Nat := if presB p = true then 2 else 0
theorem aPress_any (p : Int) (w : World) : Calls Tryz.prog 49 #[.int .i64 p] w fun e w' => e = .returned (.int .i64 (presE1 p : Nat)) ∧ w' = w := by
  obtain ⟨q, hq⟩ : ∃ q, q = presE1 p := ⟨_, rfl⟩
  rw [← hq]
  unfold presE1 presB at hq
  by_cases h0 : p < 1
  · have H : Hid (q = 2) := by show _ = _; rw [hq]; simp [h0]
    clear hq
    go_enter Tryz.func49, Tryz.ntmps49
    go_wp2
    go_ret
    exact ⟨by rw [H.out]; rfl, rfl⟩
  by_cases h1 : 2000 < p
  · have H : Hid (q = 2) := by show _ = _; rw [hq]; simp [h1]
    clear hq
    go_enter Tryz.func49, Tryz.ntmps49
    go_wp2
    go_ret
    exact ⟨by rw [H.out]; rfl, rfl⟩
  have H : Hid (q = 0) := by show _ = _; rw [hq]; simp [h0, h1]
  clear hq
  go_enter Tryz.func49, Tryz.ntmps49
  go_wp2
  go_ret
  exact ⟨by rw [H.out]; rfl, rfl⟩
theorem presE_two (c : Cyl) (p : Int) : presE c p = if cylE c ≠ 0 then cylE c else presE1 p := rfl
set_option maxHeartbeats 4000000 in
theorem aChecked_any (c : Cyl) (p : Int) (w : World) : Calls Tryz.prog 76 #[cylV c, .int .i64 p] w fun e w' => e = .returned (.int .i64 (presE c p : Nat)) ∧ Ext w w' := by
  have HC := Lib.hid (fun W => aCheck_any c W)
  have HP := Lib.hid (fun W => aPress_any p W)
  rw [presE_two]
  obtain ⟨b, r, s⟩ := c
  generalize cylE ⟨b, r, s⟩ = n at HC ⊢
  generalize presE1 p = m at HP ⊢
  dsimp only [cylV] at HC ⊢
  obtain ⟨q, hq⟩ : ∃ q, q = (if n ≠ 0 then n else m) := ⟨_, rfl⟩
  rw [← hq]
  have E : Ext w (w.alloc (.cells #[.int .i64 b, .int .i64 r, .int .i64 s] 49)) := extA
  by_cases hn : n = 0
  · subst hn
    have H : Hid (q = m) := hq
    clear hq
    go_enter Tryz.func76, Tryz.ntmps76
    go_wp2_with fail
    refine (HC.out _).mono ?_
    rintro e w1 ⟨rfl, hE⟩
    go_wp2_with fail
    refine (HP.out _).mono ?_
    rintro e w2 ⟨rfl, rfl⟩
    go_wp2
    go_ret
    exact ⟨by rw [H.out]; rfl, E.trans hE⟩
  · have H : Hid (q = n) := by show _ = _; rw [hq, if_pos hn]
    have hne : (((n : Nat) : Int) != 0) = true := by rw [bne_iff_ne]; omega
    clear hq hn
    go_enter Tryz.func76, Tryz.ntmps76
    go_wp2_with fail
    refine (HC.out _).mono ?_
    rintro e w1 ⟨rfl, hE⟩
    go_wp2
    go_ret
    exact ⟨by rw [H.out]; rfl, E.trans hE⟩
def inB (n l h : Int) : Bool := decide (l ≤ n) && decide (n ≤ h)
theorem in5_any (n l h : Int) (w : World) : Calls Tryz.prog 55 #[.int .i64 n, .int .i64 l, .int .i64 h] w fun e w' => e = .returned (.bool (inB n l h)) ∧ w' = w := by
  obtain ⟨q, hq⟩ : ∃ q, q = inB n l h := ⟨_, rfl⟩
  rw [← hq]
  unfold inB at hq
  by_cases h0 : l ≤ n
  · have H : Hid (q = decide (n ≤ h)) := by show _ = _; rw [hq]; simp [h0]
    clear hq
    by_cases h1 : n ≤ h
    · have H : Hid (q = true) := by show _ = _; rw [H.out]; simp [h1]
      go_enter Tryz.func55, Tryz.ntmps55
      go_wp2
      go_ret
      exact ⟨by rw [H.out]; rfl, rfl⟩
    · have H : Hid (q = false) := by show _ = _; rw [H.out]; simp [h1]
      go_enter Tryz.func55, Tryz.ntmps55
      go_wp2
      go_ret
      exact ⟨by rw [H.out]; rfl, rfl⟩
  · have H : Hid (q = false) := by show _ = _; rw [hq]; simp [h0]
    clear hq
    go_enter Tryz.func55, Tryz.ntmps55
    go_wp2
    go_ret
    exact ⟨by rw [H.out]; rfl, rfl⟩
theorem cylB_in (b r s : Int) : cylB ⟨b, r, s⟩ = (!inB b 1 500 || !inB r 0 (b - 1) || !inB s 1 3000) := by
  unfold cylB inB
  rw [Bool.eq_iff_iff]
  simp only [Bool.or_eq_true, Bool.not_eq_true', Bool.and_eq_false_iff, decide_eq_true_eq, decide_eq_false_iff_not]
  omega
set_option maxHeartbeats 4000000 in
theorem rCheck5_any (c : Cyl) (w : World) (hb : -9223372036854775808 ≤ c.bore ∧ c.bore ≤ 9223372036854775807) : Calls Tryz.prog 29 #[cylV c] w fun e w' => e = .returned (.int .i64 (cylE c : Nat)) ∧ Ext w w' := by
  obtain ⟨b, r, s⟩ := c
  dsimp only at hb
  have H1 := Lib.hid (fun W => in5_any b 1 500 W)
  have H2 := Lib.hid (fun W => in5_any r 0 (b - 1) W)
  have H3 := Lib.hid (fun W => in5_any s 1 3000 W)
  have hcb := cylB_in b r s
  have hbo : inB b 1 500 = true → IntKind.i64.wrap (b - 1) = b - 1 := fun h => by
    unfold inB at h
    rw [Bool.and_eq_true, decide_eq_true_eq, decide_eq_true_eq] at h
    exact IntWalk.i64_in _ (by omega)
  obtain ⟨q, hq⟩ : ∃ q, q = cylE ⟨b, r, s⟩ := ⟨_, rfl⟩
  rw [← hq]
  unfold cylE at hq
  rw [hcb] at hq
  generalize inB b 1 500 = i1 at H1 hq hbo
  generalize inB r 0 (b - 1) = i2 at H2 hq
  generalize inB s 1 3000 = i3 at H3 hq
  dsimp only [cylV]
  have E : Ext w (w.alloc (.cells #[.int .i64 b, .int .i64 r, .int .i64 s] 46)) := extA
  have c0 : ((w.alloc (.cells #[.int .i64 b, .int .i64 r, .int .i64 s] 46))).cell? ⟨w.heap.size, 0, none⟩ = some (.int .i64 b) := by go_simp
  clear hcb hb
  cases i1
  · have H : Hid (q = 2) := hq
    clear hq hbo
    go_enter Tryz.func29, Tryz.ntmps29
    go_wp2_with fail
    refine (H1.out _).mono ?_
    rintro e w1 ⟨rfl, rfl⟩
    go_wp2
    go_ret
    exact ⟨by rw [H.out]; rfl, E⟩
  have hw := hbo rfl
  clear hbo
  cases i2
  · have H : Hid (q = 2) := hq
    clear hq
    go_enter Tryz.func29, Tryz.ntmps29
    go_wp2_with fail
    refine (H1.out _).mono ?_
    rintro e w1 ⟨rfl, rfl⟩
    go_wp2_with fail
    refine (H2.out _).mono ?_
    rintro e w2 ⟨rfl, rfl⟩
    go_wp2
    go_ret
    exact ⟨by rw [H.out]; rfl, E⟩
  cases i3
  all_goals
    have H := Lib.hid hq
    clear hq
    go_enter Tryz.func29, Tryz.ntmps29
    go_wp2_with fail
    refine (H1.out _).mono ?_
    rintro e w1 ⟨rfl, rfl⟩
    go_wp2_with fail
    refine (H2.out _).mono ?_
    rintro e w2 ⟨rfl, rfl⟩
    go_wp2_with fail
    refine (H3.out _).mono ?_
    rintro e w3 ⟨rfl, rfl⟩
    go_wp2
    go_ret
    exact ⟨by rw [H.out]; rfl, E⟩
set_option maxHeartbeats 4000000 in
theorem rPressed_any (c : Cyl) (p : Int) (w : World) (hb : -9223372036854775808 ≤ c.bore ∧ c.bore ≤ 9223372036854775807) : Calls Tryz.prog 77 #[cylV c, .int .i64 p] w fun e w' => e = .returned (.int .i64 (presE c p : Nat)) ∧ Ext w w' := by
  have HC := Lib.hid (fun W => rCheck5_any c W hb)
  have HP := Lib.hid (fun W => in5_any p 1 2000 W)
  have hpp : presE1 p = if inB p 1 2000 = true then 0 else 2 := by
    have e : presB p = !inB p 1 2000 := by
      unfold presB inB
      rw [Bool.eq_iff_iff]
      simp only [Bool.or_eq_true, Bool.not_eq_true', Bool.and_eq_false_iff, decide_eq_true_eq, decide_eq_false_iff_not]
      omega
    unfold presE1
    rw [e]
    cases inB p 1 2000 <;> rfl
  rw [presE_two, hpp]
  obtain ⟨b, r, s⟩ := c
  generalize cylE ⟨b, r, s⟩ = n at HC ⊢
  generalize inB p 1 2000 = m at HP ⊢
  dsimp only [cylV] at HC ⊢
  obtain ⟨q, hq⟩ : ∃ q, q = (if n ≠ 0 then n else if m = true then 0 else 2) := ⟨_, rfl⟩
  rw [← hq]
  have E : Ext w (w.alloc (.cells #[.int .i64 b, .int .i64 r, .int .i64 s] 46)) := extA
  clear hpp
  by_cases hn : n = 0
  · subst hn
    cases m
    all_goals
      have H := Lib.hid hq
      clear hq
      go_enter Tryz.func77, Tryz.ntmps77
      go_wp2_with fail
      refine (HC.out _).mono ?_
      rintro e w1 ⟨rfl, hE⟩
      go_wp2_with fail
      refine (HP.out _).mono ?_
      rintro e w2 ⟨rfl, rfl⟩
      go_wp2
      go_ret
      exact ⟨by rw [H.out]; rfl, E.trans hE⟩
  · have H : Hid (q = n) := by show _ = _; rw [hq, if_pos hn]
    have hne : (((n : Nat) : Int) != 0) = true := by rw [bne_iff_ne]; omega
    clear hq hn
    go_enter Tryz.func77, Tryz.ntmps77
    go_wp2_with fail
    refine (HC.out _).mono ?_
    rintro e w1 ⟨rfl, hE⟩
    go_wp2
    go_ret
    exact ⟨by rw [H.out]; rfl, E.trans hE⟩
end Go.Proofs.YtlnonmmaknhppaaGreatDoor
namespace Go.Proofs.YtlnonmmaknhppaaGreatDoor
open Go.RowKit
open Go.Lib (decDigits itoa)
structure QOk (x : Int × Int) : Prop where
  n0 : 0 ≤ x.1
  n1 : x.1 < 10 ^ 18
  d0 : 0 < x.2
  d1 : x.2 < 10 ^ 18
def quoT (x : Int × Int) : Txt := fracT ((x.1 : Rat) / (x.2 : Rat))
theorem QOk.is {x : Int × Int} (h : QOk x) : makeR (itoa x.1) (itoa x.2) = (quoT x, 0) ∧ (quoT x).length ≤ 400 ∧ pointE (quoT x) = ((quoT x, quoT x), 0) ∧ quoS x.1 x.2 = ((quoT x, quoT x), 0) := by
  have h1 := h.n0
  have h2 := h.n1
  have h3 := h.d0
  have h4 := h.d1
  obtain ⟨g1, g2⟩ := quo_good (n := x.1) (d := x.2) (K := 18) h3 (by omega) (by omega) (by omega)
  refine ⟨g1, g2.len, g2.point.1, ?_⟩
  unfold quoS quoT
  rw [g1, if_neg (by simp), g2.point.1]
theorem times_cons {a : Enc} {x : Int × Int} {l : List (Int × Int)} (h : QOk x) : timesE a (x :: l) = if (mulE a (quoT x, quoT x)).2 ≠ 0 then badEnc (mulE a (quoT x, quoT x)).2 else timesE (mulE a (quoT x, quoT x)).1 l := by
  conv => lhs; unfold timesE
  rw [h.is.2.2.2, if_neg (by simp)]
set_option maxHeartbeats 4000000 in
set_option maxRecDepth 100000 in
theorem enclosed_any (n d : Int) (w : World) (hG : Glob w) (h : QOk (n, d)) : Calls Tryz.prog 121 #[.agg #[.int .i64 n, .int .i64 d]] w (EncP ((quoT (n, d), quoT (n, d)), 0) w) := by
  obtain ⟨h1, h2, h3, _⟩ := h.is
  have k1 := h.n0
  have k2 := h.n1
  have k3 := h.d0
  have k4 := h.d1
  dsimp only at h1 k1 k2 k3 k4
  have HO := Lib.hid (fun W (g : Ext w W) => of_any n d W (hG.ext g) (by omega) (by omega) (by omega) (by omega))
  rw [h1] at HO
  have HP := Lib.hid (fun W (g : Ext w W) => ePoint_any (quoT (n, d)) W (hG.ext g) h2)
  rw [h3] at HP
  clear h1 h2 h3 h k1 k2 k3 k4 hG
  generalize quoT (n, d) = t at HO HP ⊢
  unfold EncP at HP ⊢
  unfold ResP at HO
  dsimp only [encV] at HP ⊢
  have X : EncAt (w.heap.size + 1) ((w.alloc (.cells #[.int .i64 n, .int .i64 d] 90)).alloc (.cells #[.string ⟨#[]⟩, .string ⟨#[]⟩] 35)) [] [] := ⟨by go_simp, by go_simp, by go_simp, by go_simp⟩
  have E : Ext w ((w.alloc (.cells #[.int .i64 n, .int .i64 d] 90)).alloc (.cells #[.string ⟨#[]⟩, .string ⟨#[]⟩] 35)) := extA
  go_enter Tryz.func121, Tryz.ntmps121
  go_wp2_with fail
  generalize ((w.alloc (.cells #[.int .i64 n, .int .i64 d] 90)).alloc (.cells #[.string ⟨#[]⟩, .string ⟨#[]⟩] 35)) = w0 at X E ⊢
  refine (HO.out _ E).mono ?_
  rintro e w1 ⟨rfl, hE⟩
  replace X := X.ext hE
  replace E := E.trans hE
  clear hE
  go_wp2_with fail
  refine (HP.out _ E).mono ?_
  rintro e w2 ⟨rfl, hE⟩
  obtain ⟨d0, d1, g0, g1⟩ := X.ext hE
  replace E := E.trans hE
  clear hE X
  go_wp2
  refine bodyPost_ret (v := .tuple #[.agg #[txt t, txt t], .int .i64 0]) (by rw [results_cell_tmp1 rfl]; go_simp) rfl ?_
  exact ⟨rfl, extA⟩
theorem drop_consA {α : Type} (l : List α) (d : α) {k : Nat} (h : k < l.length) : l.drop k = l.getD k d :: l.drop (k + 1) := by
  rw [List.getD_eq_getElem?_getD, List.getElem?_eq_getElem h]; exact List.drop_eq_getElem_cons h
theorem getD_inA {α : Type} {l : List α} {d : α} {k : Nat} (h : k < l.length) : l.getD k d ∈ l := by
  rw [List.getD_eq_getElem?_getD, List.getElem?_eq_getElem h]; exact List.getElem_mem h
def CellsQt (w : World) (a : Option Addr) (l : List (Int × Int)) : Prop := ∀ i, i < l.length → ∃ b off, a = some ⟨b, off, none⟩ ∧ w.cell? ⟨b, off + i * 2, none⟩ = some (.int .i64 (l.getD i (0, 1)).1) ∧ w.cell? ⟨b, off + i * 2 + 1, none⟩ = some (.int .i64 (l.getD i (0, 1)).2)
theorem CellsQt.ext {A B : World} {a : Option Addr} {l : List (Int × Int)} (h : CellsQt A a l) (e : Ext A B) : CellsQt B a l := fun i hi => by
  obtain ⟨b, off, h1, h2, h3⟩ := h i hi
  exact ⟨b, off, h1, e.cell h2, e.cell h3⟩
set_option maxHeartbeats 8000000 in
set_option maxRecDepth 100000 in
theorem aTimes_any (a : Enc) (l : List (Int × Int)) (qa : Option Addr) (qc : Nat) (w : World) (hG : Glob w) (hl : LenE a) (hc : CellsQt w qa l) (hq : ∀ x ∈ l, QOk x) (h9 : l.length ≤ 9) :
    Calls Tryz.prog 80 #[encV a, .slice qa l.length qc] w (EncP (timesE a l) w) := by
  have HC := Lib.hid hc
  have HQ := Lib.hid hq
  have HG := Lib.hid hG
  obtain ⟨R, hR⟩ : ∃ R, R = timesE a l := ⟨_, rfl⟩
  rw [← hR]
  unfold EncP
  have HR := Lib.hid hR
  have HLA := Lib.hid hl
  clear hc hq hG hR hl
  obtain ⟨t, u⟩ := a
  dsimp only [encV]
  have A : EncAt w.heap.size ((w.alloc (.cells #[txt t, txt u] 35)).alloc (.cells #[.string ⟨#[]⟩, .string ⟨#[]⟩] 35)) t u := ⟨by go_simp, by go_simp, by go_simp, by go_simp⟩
  have X : EncAt (w.heap.size + 1) ((w.alloc (.cells #[txt t, txt u] 35)).alloc (.cells #[.string ⟨#[]⟩, .string ⟨#[]⟩] 35)) [] [] := ⟨by go_simp, by go_simp, by go_simp, by go_simp⟩
  have E : Ext w ((w.alloc (.cells #[txt t, txt u] 35)).alloc (.cells #[.string ⟨#[]⟩, .string ⟨#[]⟩] 35)) := extA
  go_enter Tryz.func80, Tryz.ntmps80
  go_wp2_with fail
  generalize ((w.alloc (.cells #[txt t, txt u] 35)).alloc (.cells #[.string ⟨#[]⟩, .string ⟨#[]⟩] 35)) = w0 at A X E ⊢
  go_loopw [12] (fun x wr => ∃ (k : Nat) (p q : Txt), k ≤ l.length ∧ x = .int .i64 k ∧ Hid (timesE (p, q) (l.drop k) = R ∧ LenE (p, q)) ∧ EncAt w.heap.size wr p q ∧ EncAt (w.heap.size + 1) wr [] [] ∧ Ext w wr) (fun x _ => l.length - (intOf x).toNat)
  case atStart => exact ⟨0, t, u, Nat.zero_le _, rfl, ⟨HR.out.symm, HLA.out⟩, A, X, E⟩
  case round =>
    clear A X E
    obtain ⟨k, p, q, hk, rfl, hz, A, X, E⟩ := hrel
    by_cases hlt : k < l.length
    · obtain ⟨b, off, ha, e1, e2⟩ := HC.out.ext E k hlt
      subst ha
      have hz1 := hz.out.1
      have hqk := HQ.out (l.getD k (0, 1)) (getD_inA hlt)
      rw [drop_consA l (0, 1) hlt, times_cons hqk] at hz1
      have HZ := Lib.hid hz1
      have HL := Lib.hid hz.out.2
      clear hz hz1
      generalize l.getD k (0, 1) = x at e1 e2 hqk HZ
      obtain ⟨n, d⟩ := x
      dsimp only at e1 e2
      have HEN := Lib.hid (fun W (g : Ext w W) => enclosed_any n d W (HG.out.ext g) hqk)
      have HML := Lib.hid (fun W (g : Ext w W) => eMul_any (p, q) (quoT (n, d), quoT (n, d)) W (HG.out.ext g) HL.out ⟨hqk.is.2.1, hqk.is.2.1⟩)
      have hml := mulE_len (a := (p, q)) (b := (quoT (n, d), quoT (n, d)))
      generalize mulE (p, q) (quoT (n, d), quoT (n, d)) = M at HML HZ hml
      generalize quoT (n, d) = tq at HEN HML
      clear hqk
      obtain ⟨⟨m1, m2⟩, me⟩ := M
      unfold EncP at HEN HML
      dsimp only [encV] at HEN HML hml
      dsimp only at HZ
      have A' := A
      have X' := X
      obtain ⟨a0, a1, a2, a3⟩ := A
      obtain ⟨x0, x1, x2, x3⟩ := X
      have z0 := cell_lt a0
      have z1 := cell_lt x0
      have z2 := cell_lt e1
      dsimp only at z0 z1 z2
      go_wp2_with fail
      have E1 : Ext wr (wr.alloc (.cells #[.int .i64 n, .int .i64 d] 90)) := extA
      replace A' := A'.ext E1
      replace X' := X'.ext E1
      replace E := E.trans E1
      clear E1 a0 a1 a2 a3 x0 x1 x2 x3 z0 z1 z2 e1 e2
      generalize (wr.alloc (.cells #[.int .i64 n, .int .i64 d] 90)) = w1 at A' X' E ⊢
      refine (HEN.out _ E).mono ?_
      rintro e w2 ⟨rfl, hE⟩
      replace A' := A'.ext hE
      replace X' := X'.ext hE
      replace E := E.trans hE
      have A := A'
      have X := X'
      obtain ⟨a0, a1, a2, a3⟩ := A
      obtain ⟨x0, x1, x2, x3⟩ := X
      have z0 := cell_lt a0
      have z1 := cell_lt x0
      dsimp only at z0 z1
      clear hE
      go_wp2_with fail
      have E2 : Ext w2 (w2.alloc (.cells #[txt tq, txt tq] 35)) := extA
      replace A' := A'.ext E2
      replace X' := X'.ext E2
      replace E := E.trans E2
      clear E2 a0 a1 a2 a3 x0 x1 x2 x3 z0 z1
      generalize (w2.alloc (.cells #[txt tq, txt tq] 35)) = w3 at A' X' E ⊢
      refine (HML.out _ E).mono ?_
      rintro e w4 ⟨rfl, hE⟩
      replace A' := A'.ext hE
      replace X' := X'.ext hE
      replace E := E.trans hE
      clear hE
      have A := A'
      have X := X'
      obtain ⟨a0, a1, a2, a3⟩ := A
      obtain ⟨x0, x1, x2, x3⟩ := X
      have z0 := cell_lt a0
      have z1 := cell_lt x0
      dsimp only at z0 z1
      have AS := (A'.set0 m1).set1 m2
      have XS := X'.two (c := w.heap.size) (o1 := 0) (v := txt m1) (o2 := 1) (u := txt m2) (by omega)
      have ES : Ext w ((w4.setCell ⟨w.heap.size, 0, none⟩ (txt m1)).setCell ⟨w.heap.size, 1, none⟩ (txt m2)) := (E.set (b := w.heap.size) (o := 0) (by omega) (txt m1)).set (b := w.heap.size) (o := 1) (by omega) (txt m2)
      by_cases hm : me = 0
      · subst hm
        have hz2 := HZ.out
        rw [if_neg (by simp)] at hz2
        have HZ2 := Lib.hid (And.intro hz2 (hml rfl))
        clear HZ hz2 hml
        go_wp2
        refine ⟨⟨k + 1, m1, m2, by omega, by go_num, HZ2.out, AS, XS, ES⟩, by simp [intOf]; omega⟩
      · have hne : (((me : Nat) : Int) != 0) = true := by rw [bne_iff_ne]; omega
        have hz2 := HZ.out
        rw [if_pos hm] at hz2
        have HZ2 := Lib.hid hz2.symm
        clear HZ hz2 hml hm
        go_wp2_with fail
        refine bodyPost_ret (v := .tuple #[.agg #[txt [], txt []], .int .i64 (me : Nat)]) (by rw [results_cell_tmp1 rfl]; go_simp) rfl ?_
        exact ⟨by rw [HZ2.out]; rfl, extA⟩
    · have hke : k = l.length := by omega
      subst hke
      have hz1 := hz.out.1
      rw [List.drop_eq_nil_of_le (Nat.le_refl _)] at hz1
      have HZ : Hid (R = ((p, q), 0)) := hz1.symm
      obtain ⟨a0, a1, a2, a3⟩ := A
      obtain ⟨x0, x1, x2, x3⟩ := X
      have z0 := cell_lt a0
      have z1 := cell_lt x0
      dsimp only at z0 z1
      clear hz hz1
      go_wp2_with fail
      refine bodyPost_ret (v := .tuple #[.agg #[txt p, txt q], .int .i64 0]) (by rw [results_cell_tmp1 rfl]; go_simp) rfl ?_
      exact ⟨by rw [HZ.out]; rfl, extA⟩
end Go.Proofs.YtlnonmmaknhppaaGreatDoor
namespace Go.Proofs.YtlnonmmaknhppaaGreatDoor
open Go.RowKit
open Go.Lib (decDigits itoa)
theorem run_append_emptyA {P : Program} (w : World) (t ty e : TypeId) (i : TypeInfo) (ht : P.underlying t = some (.slice e)) (hi : P.info? e = some i) (g : Addr) (n cap : Nat) (hn : n ≤ cap) (a : Option Addr) (c : Nat) :
    (Builtin.append_ #[t, t] ty #[.slice (some g) n cap, .slice a 0 c]).run P w = .ok (.slice (some g) n cap) w := by
  cases a <;> simp [Builtin.append_, run_underlying ht, sizeOf, typeInfo, hi, hn, Builtin.lenOf, Builtin.firstCells, loadCells, storeCells, loadCellsFrom]
theorem wpList_appRun {P : Program} (w : World) {ops : Array Oper} {rest : List Oper} {o : Oper} {a : Act} {Q : Exit → Act → World → Prop} (hgd : o.guard = none) (s x : Operand) (t : TypeId)
    (ho : o.op = .call { callee := .builtin .append, args := #[s, x], argTypes := #[t, t] }) (v y : Value) (hs : a.eval s = v) (hx : a.eval x = y)
    (v' : Value) (w' : World) (hr : (Builtin.append_ #[t, t] o.type #[v, y]).run P w = .ok v' w')
    (h : wpList P ops Q rest (a.put o.dst v') w') : wpList P ops Q (o :: rest) a w := by
  refine wpList_plain hgd fun K hK => ?_
  unfold Oper.wp execOp
  simp only [ho, resolve, invoke, builtin, Sem.run_bind, Sem.run_pure, Result.andThen_ok, List.map_toArray, List.map_cons, List.map_nil, hs, hx, hr]
  exact hK _ _ h
theorem infoQt : (Tryz.prog.info? 90).map (fun i => (i.zero, i.size, i.bytes)) = some (some (.agg #[.int .i64 0, .int .i64 0]), 2, 16) := by kernel_rfl
def pairZ (l : List (Int × Int)) : List (Value × Value) := l.map fun x => (.int .i64 x.1, .int .i64 x.2)
theorem flat2_twoA {l : List (Value × Value)} {j : Nat} {u : Value} (h : (flat2 l)[j]? = some u) : ∃ i, ∃ hi : i < l.length, (j = i * 2 ∧ u = l[i].1) ∨ (j = i * 2 + 1 ∧ u = l[i].2) := by
  have hj := (List.getElem?_eq_some_iff.1 h).1
  rw [flat2_length] at hj
  have hi : j / 2 < l.length := by omega
  have hg := flat2_get l (j / 2) hi
  refine ⟨j / 2, hi, ?_⟩
  rcases Nat.mod_two_eq_zero_or_one j with h0 | h0
  · have e : j / 2 * 2 = j := by omega
    rw [e] at hg
    exact .inl ⟨e.symm, by rw [hg.1] at h; exact (Option.some.inj h).symm⟩
  · have e : j / 2 * 2 + 1 = j := by omega
    rw [e] at hg
    exact .inr ⟨e.symm, by rw [hg.2] at h; exact (Option.some.inj h).symm⟩
theorem cellsQt_row {w : World} {v : Value} {l : List (Int × Int)} (h : w.ownsRow 0 90 2 v l.length (flat2 (pairZ l))) : ∃ a c, v = .slice a l.length c ∧ CellsQt w a l := by
  obtain ⟨a, c, hv, hm, hr⟩ := rowReads h
  refine ⟨a, c, hv, fun i hi => ?_⟩
  have hg := flat2_get (pairZ l) i (by simpa [pairZ] using hi)
  obtain ⟨b, hb, _, h1, _⟩ := hr _ _ hg.1
  obtain ⟨b', hb', _, h2, _⟩ := hr _ _ hg.2
  rw [hb] at hb'
  cases hb'
  refine ⟨b, 0, hb, ?_, ?_⟩
  · rw [Nat.zero_add, h1]; simp [pairZ, List.getD, hi]
  · rw [Nat.zero_add, h2]; simp [pairZ, List.getD, hi]
theorem run_appQ {w w1 : World} (x : Int × Int) (g : Nat) (hg : w1.heap.size ≤ g) (hO : w.ownsRow 0 90 2 (.slice (some ⟨g, 0, none⟩) 1 1) 1 [.int .i64 x.1, .int .i64 x.2]) (E : Ext w1 w) (l : List (Int × Int)) (qa : Option Addr) (qc : Nat) (hc : CellsQt w qa l) (hn : l.length ≤ 9) :
    ∃ a c w', (Builtin.append_ #[139, 139] 139 #[.slice (some ⟨g, 0, none⟩) 1 1, .slice qa l.length qc]).run Tryz.prog w = .ok (.slice a (x :: l).length c) w' ∧ CellsQt w' a (x :: l) ∧ Ext w1 w' := by
  obtain ⟨i0, hi, hi0, hi1, hi2⟩ := info_parts infoQt
  by_cases h0 : l.length = 0
  · have hz : l = [] := List.eq_nil_of_length_eq_zero h0
    subst hz
    obtain ⟨a, c, hv, hcq⟩ := cellsQt_row (l := [x]) hO
    injection hv with h1 h2 h3
    subst h1
    exact ⟨some ⟨g, 0, none⟩, 1, w, run_append_emptyA w _ _ _ i0 Tryz.underlying139 hi _ _ _ (Nat.le_refl _) _ _, hcq, E⟩
  · obtain ⟨b, off, rfl, _⟩ := hc 0 (by omega)
    obtain ⟨v', w', hr, h2, h3⟩ := run_append1 (P := Tryz.prog) w 139 139 90 i0 (.agg #[.int .i64 0, .int .i64 0]) 2 16 Tryz.underlying139 hi hi0 hi1 hi2 rfl (by decide) (.slice (some ⟨g, 0, none⟩) 1 1) 1 _ hO ⟨b, off, none⟩ l.length qc (by omega) (flat2 (pairZ l)) (by rw [flat2_length]; simp [pairZ]) (fun j u hu => by
      obtain ⟨i, hi, hh⟩ := flat2_twoA hu
      have hi' : i < l.length := by simpa [pairZ] using hi
      obtain ⟨b', off', hb, k1, k2⟩ := hc i hi'
      cases hb
      rw [Addr.add_lit]
      rcases hh with ⟨rfl, rfl⟩ | ⟨rfl, rfl⟩
      · rw [k1]; simp [pairZ, List.getD, hi']
      · rw [← Nat.add_assoc, k2]; simp [pairZ, List.getD, hi']) (fun u hu => by
      obtain ⟨j, hj, e⟩ := List.mem_iff_getElem.1 hu
      obtain ⟨i, hi, ⟨_, h⟩ | ⟨_, h⟩⟩ := flat2_twoA (l := pairZ l) (j := j) (u := u) (by rw [← e]; exact List.getElem?_eq_getElem hj)
      · rw [h]; simp only [pairZ, List.getElem_map]; rfl
      · rw [h]; simp only [pairZ, List.getElem_map]; rfl) (by unfold maxLen; omega) (by omega)
    have h4 : w'.ownsRow 0 90 2 v' (x :: l).length (flat2 (pairZ (x :: l))) := by
      rw [List.length_cons, Nat.add_comm]
      exact h2
    obtain ⟨a, c, hv, hcq⟩ := cellsQt_row h4
    subst hv
    exact ⟨a, c, w', hr, hcq, E.trans' (h3.below (n := w1.heap.size) E.size (fun q hq => by cases hq; exact hg)) (Nat.le_refl _)⟩
theorem ownsQt_one (w : World) (x : Int × Int) : (w.alloc (.cells #[.int .i64 x.1, .int .i64 x.2] 90)).ownsRow 0 90 2 (.slice (some ⟨w.heap.size, 0, none⟩) 1 1) 1 [.int .i64 x.1, .int .i64 x.2] :=
  ⟨rfl, .inr ⟨w.heap.size, 1, #[.int .i64 x.1, .int .i64 x.2], rfl, Nat.zero_le _, heap_alloc_new w _, Nat.le_refl _, by decide, rfl, rfl⟩⟩
theorem faceN_bd2 {c : Cyl} (h : 1 ≤ c.bore ∧ c.bore ≤ 500 ∧ 0 ≤ c.rod ∧ c.rod < c.bore) (out : Bool) : 1 ≤ faceN c out ∧ faceN c out ≤ 250000 := faceN_bd (c := ⟨c.bore, c.rod, 1⟩) ⟨h.1, h.2.1, h.2.2.1, h.2.2.2, by dsimp only; omega, by dsimp only; omega⟩ out
set_option maxHeartbeats 8000000 in
set_option maxRecDepth 100000 in
theorem face_any (c : Cyl) (out : Bool) (l : List (Int × Int)) (qa : Option Addr) (qc : Nat) (w : World) (hG : Glob w) (hk : 1 ≤ c.bore ∧ c.bore ≤ 500 ∧ 0 ≤ c.rod ∧ c.rod < c.bore) (hc : CellsQt w qa l) (hq : ∀ x ∈ l, QOk x) (h9 : l.length ≤ 6) :
    Calls Tryz.prog 53 #[cylV c, .bool out, .slice qa l.length qc] w (EncP (timesE piE ((faceN c out, 4) :: l)) w) := by
  have HC := Lib.hid hc
  have HG := Lib.hid hG
  have hfb := faceN_bd2 hk out
  have HT := Lib.hid (fun W a cc hg hcc => aTimes_any piE ((faceN c out, 4) :: l) a cc W hg ⟨by decide, by decide⟩ hcc (fun x hx => by
    rcases List.mem_cons.1 hx with rfl | hx
    · exact ⟨by dsimp only; omega, by dsimp only; omega, by dsimp only; omega, by dsimp only; omega⟩
    · exact hq x hx) (by rw [List.length_cons]; omega))
  have hrow := fun W W1 g h1 h2 h3 h4 => run_appQ (w := W) (w1 := W1) (faceN c out, 4) g h1 h2 h3 l qa qc h4 (by omega)
  have HROW := Lib.hid hrow
  unfold EncP at HT ⊢
  generalize timesE piE ((faceN c out, 4) :: l) = R at HT ⊢
  clear hc hG hq hrow
  obtain ⟨⟨r1, r2⟩, re⟩ := R
  dsimp only [encV] at HT ⊢
  obtain ⟨b, r, s⟩ := c
  dsimp only at hk
  dsimp only [cylV]
  dsimp only [piE] at HT
  obtain ⟨h1, h2, h3, h4⟩ := hk
  have q1 : b * b ≤ 500 * 500 := Int.mul_le_mul h2 h2 (by omega) (by omega)
  have q2 : 0 ≤ b * b := Int.mul_nonneg (by omega) (by omega)
  have q3 : r * r ≤ 500 * 500 := Int.mul_le_mul (by omega) (by omega) h3 (by omega)
  have q4 : 0 ≤ r * r := Int.mul_nonneg h3 h3
  have u1 : IntKind.i64.wrap (b * b) = b * b := IntWalk.i64_in _ (by omega)
  have u2 : IntKind.i64.wrap (r * r) = r * r := IntWalk.i64_in _ (by omega)
  have u3 : IntKind.i64.wrap (b * b - r * r) = b * b - r * r := IntWalk.i64_in _ (by omega)
  clear q1 q2 q3 q4 h1 h2 h3 h4
  have X : EncAt (w.heap.size + 1) ((w.alloc (.cells #[.int .i64 b, .int .i64 r, .int .i64 s] 49)).alloc (.cells #[.string ⟨#[]⟩, .string ⟨#[]⟩] 35)) [] [] := ⟨by go_simp, by go_simp, by go_simp, by go_simp⟩
  have E : Ext w ((w.alloc (.cells #[.int .i64 b, .int .i64 r, .int .i64 s] 49)).alloc (.cells #[.string ⟨#[]⟩, .string ⟨#[]⟩] 35)) := extA
  cases out
  · rw [show faceN ⟨b, r, s⟩ false = b * b - r * r from rfl] at HROW hfb
    go_enter Tryz.func53, Tryz.ntmps53
    go_wp2_with fail
    generalize ((w.alloc (.cells #[.int .i64 b, .int .i64 r, .int .i64 s] 49)).alloc (.cells #[.string ⟨#[]⟩, .string ⟨#[]⟩] 35)) = w0 at X E ⊢
    refine (ePi_any _).mono ?_
    rintro e w1 ⟨rfl, hE⟩
    dsimp only [encV]
    replace X := X.ext hE
    replace E := E.trans hE
    clear hE
    have E1 : Ext w1 (w1.alloc (.cells #[.int .i64 (b * b - r * r), .int .i64 4] 90)) := extA
    obtain ⟨a, cc, w4, hr, hcq, hE4⟩ := HROW.out (w1.alloc (.cells #[.int .i64 (b * b - r * r), .int .i64 4] 90)) w1 w1.heap.size (Nat.le_refl _) (ownsQt_one w1 (b * b - r * r, 4)) E1 (HC.out.ext (E.trans E1))
    have HR := Lib.hid hr
    have HCQ := Lib.hid hcq
    have E4 := E.trans hE4
    replace X := X.ext hE4
    clear hr hcq hE4 E1 E
    go_wp2_with (at_builtin; refine wpList_appRun _ rfl _ _ 139 rfl (.slice (some ⟨w1.heap.size, 0, none⟩) 1 1) (.slice qa l.length qc) rfl rfl _ _ HR.out ?_)
    go_wp2_with fail
    refine (HT.out w4 a cc (HG.out.ext E4) HCQ.out).mono ?_
    rintro e w5 ⟨rfl, hE⟩
    obtain ⟨d0, d1, g0, g1⟩ := X.ext hE
    have E5 := E4.trans hE
    clear hE E4 X
    go_wp2
    refine bodyPost_ret (v := .tuple #[.agg #[txt r1, txt r2], .int .i64 (re : Nat)]) (by rw [results_cell_tmp1 rfl]; go_simp) rfl ?_
    exact ⟨rfl, extA⟩
  · rw [show faceN ⟨b, r, s⟩ true = b * b from rfl] at HROW hfb
    go_enter Tryz.func53, Tryz.ntmps53
    go_wp2_with fail
    generalize ((w.alloc (.cells #[.int .i64 b, .int .i64 r, .int .i64 s] 49)).alloc (.cells #[.string ⟨#[]⟩, .string ⟨#[]⟩] 35)) = w0 at X E ⊢
    refine (ePi_any _).mono ?_
    rintro e w1 ⟨rfl, hE⟩
    dsimp only [encV]
    replace X := X.ext hE
    replace E := E.trans hE
    clear hE
    have E1 : Ext w1 (w1.alloc (.cells #[.int .i64 (b * b), .int .i64 4] 90)) := extA
    obtain ⟨a, cc, w4, hr, hcq, hE4⟩ := HROW.out (w1.alloc (.cells #[.int .i64 (b * b), .int .i64 4] 90)) w1 w1.heap.size (Nat.le_refl _) (ownsQt_one w1 (b * b, 4)) E1 (HC.out.ext (E.trans E1))
    have HR := Lib.hid hr
    have HCQ := Lib.hid hcq
    have E4 := E.trans hE4
    replace X := X.ext hE4
    clear hr hcq hE4 E1 E
    go_wp2_with (at_builtin; refine wpList_appRun _ rfl _ _ 139 rfl (.slice (some ⟨w1.heap.size, 0, none⟩) 1 1) (.slice qa l.length qc) rfl rfl _ _ HR.out ?_)
    go_wp2_with fail
    refine (HT.out w4 a cc (HG.out.ext E4) HCQ.out).mono ?_
    rintro e w5 ⟨rfl, hE⟩
    obtain ⟨d0, d1, g0, g1⟩ := X.ext hE
    have E5 := E4.trans hE
    clear hE E4 X
    go_wp2
    refine bodyPost_ret (v := .tuple #[.agg #[txt r1, txt r2], .int .i64 (re : Nat)]) (by rw [results_cell_tmp1 rfl]; go_simp) rfl ?_
    exact ⟨rfl, extA⟩
end Go.Proofs.YtlnonmmaknhppaaGreatDoor
