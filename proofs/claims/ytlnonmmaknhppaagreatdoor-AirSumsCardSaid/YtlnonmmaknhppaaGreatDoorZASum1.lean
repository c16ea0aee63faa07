/- Steps of the proof: Air4, FOwn, FOps, FCptP, FCpt0, FApi, FOpsR, EAdd, EAddR, AGiv, AOpen, AJoin, ACyl, QSpec, QCells, AOwK, QStep, QSeq, QBeh, QCheck. No conditions. -/
import Derived.Test.YtlnonmmaknhppaaGreatDoorCards
import Derived.Test.YtlnonmmaknhppaaGreatDoorTie
import Derived.WalkKit
import Derived.ProofKit
import Derived.OpenShut
import Derived.Deep.DeepHandedRow
import Derived.Lib.LaidTab
import Derived.LaidSub
import Derived.Stop.LaidErr
import Derived.MakeChecks
import Derived.Lib.SmallJoins
import Derived.Deep.Slices
import Derived.Laws.ResultCell
import Derived.Laws.StructEq
import Derived.Test.YtlnonmmaknhppaaGreatDoorZAB1
import Derived.Test.YtlnonmmaknhppaaGreatDoorZAB2
import Derived.Test.YtlnonmmaknhppaaGreatDoorZAB3
import Derived.Test.YtlnonmmaknhppaaGreatDoorZAB4
import Derived.Test.YtlnonmmaknhppaaGreatDoorZAB5
import Derived.Test.YtlnonmmaknhppaaGreatDoorZAB6
import Derived.Test.YtlnonmmaknhppaaGreatDoorZAB7
import Derived.Test.YtlnonmmaknhppaaGreatDoorZAB8
import Derived.Test.YtlnonmmaknhppaaGreatDoorZAB9
import Derived.Test.YtlnonmmaknhppaaGreatDoorZAB10
import Derived.Test.YtlnonmmaknhppaaGreatDoorZAB11
namespace Go.Proofs.YtlnonmmaknhppaaGreatDoor
def litN (c : Cyl) (out : Bool) (p : Int) : Int := faceN c out * c.stroke * (p + 101)
theorem litN_bd {c : Cyl} (h : CylOk c) (out : Bool) {p : Int} (h1 : 1 ≤ p) (h2 : p ≤ 2000) : 0 ≤ litN c out p ∧ litN c out p ≤ 1575750000000 := by
  obtain ⟨a1, a2⟩ := faceN_bd h out
  have s1 := h.s1
  have s2 := h.s2
  have b1 : 0 ≤ faceN c out * c.stroke := Int.mul_nonneg (by omega) (by omega)
  have b2 : faceN c out * c.stroke ≤ 250000 * 3000 := Int.mul_le_mul a2 s2 (by omega) (by omega)
  refine ⟨Int.mul_nonneg b1 (by omega), ?_⟩
  have b3 : faceN c out * c.stroke * (p + 101) ≤ 250000 * 3000 * 2101 := Int.mul_le_mul b2 (by omega) (by omega) (by omega)
  unfold litN
  omega
def sumL (M : Int) : Rat := ((223 * M : Int) : Rat) / ((28684000000 : Int) : Rat)
def sumH (M : Int) : Rat := ((22 * M : Int) : Rat) / ((2828000000 : Int) : Rat)
def sumT (M : Int) : Enc := encT (sumL M) (sumH M)
theorem cast_num : ((223 : Int) : Rat) = 223 ∧ ((22 : Int) : Rat) = 22 ∧ ((28684000000 : Int) : Rat) = 28684000000 ∧ ((2828000000 : Int) : Rat) = 2828000000 ∧ ((101000000 : Int) : Rat) = 101000000 ∧ ((4 : Int) : Rat) = 4 ∧ ((1 : Int) : Rat) = 1 := ⟨rfl, rfl, rfl, rfl, rfl, rfl, rfl⟩
theorem sum_le {M : Int} (h : 0 ≤ M) : sumL M ≤ sumH M := by
  unfold sumL sumH
  rw [Rat.intCast_mul, Rat.intCast_mul, cast_num.1, cast_num.2.1, cast_num.2.2.1, cast_num.2.2.2.1]
  have : (0 : Rat) ≤ (M : Rat) := by exact_mod_cast h
  grind
theorem sum_good {M : Int} (h : 0 ≤ M) (h2 : M ≤ 10 ^ 20) : GoodE 30 (sumT M) (sumL M) (sumH M) ∧ endsR (resQ (sumL M)) (resQ (sumH M)) = (sumT M, 0) := by
  have f1 : FitB 30 (sumL M) := by
    unfold sumL
    rw [intCast_div _ _ (by decide)]
    exact fit_mk (by decide) (by omega) (by decide)
  have f2 : FitB 30 (sumH M) := by
    unfold sumH
    rw [intCast_div _ _ (by decide)]
    exact fit_mk (by decide) (by omega) (by decide)
  obtain ⟨g1, g2⟩ := GoodE.of f1 f2 (by omega) (sum_le h)
  exact ⟨g2, g1⟩
theorem lit_sum (c : Cyl) (out : Bool) (p : Int) : byQ (byQ (faceL c out) c.stroke 1) (p + 101) 101000000 = sumL (litN c out p) ∧ byQ (byQ (faceH c out) c.stroke 1) (p + 101) 101000000 = sumH (litN c out p) := by
  unfold faceL faceH byQ sumL sumH litN
  simp only [Rat.intCast_mul, cast_num]
  generalize ((p + 101 : Int) : Rat) = y
  generalize (faceN c out : Rat) = x
  generalize (c.stroke : Rat) = z
  constructor <;> grind
theorem litT_is (c : Cyl) (out : Bool) (p : Int) : litT c out p = sumT (litN c out p) := by
  unfold litT sumT
  rw [(lit_sum c out p).1, (lit_sum c out p).2]
theorem sumQ_add (M N : Int) : sumL M + sumL N = sumL (M + N) ∧ sumH M + sumH N = sumH (M + N) := by
  unfold sumL sumH
  simp only [Rat.intCast_mul, Rat.intCast_add, cast_num]
  constructor <;> grind
theorem sum_add {M N : Int} (hM : 0 ≤ M) (hN : 0 ≤ N) (h : M + N ≤ 10 ^ 20) : addE (sumT M) (sumT N) = (sumT (M + N), 0) ∧ LenE (sumT M) ∧ LenE (sumT N) ∧ LenE (sumT (M + N)) := by
  obtain ⟨g1, _⟩ := sum_good hM (by omega)
  obtain ⟨g2, _⟩ := sum_good hN (by omega)
  obtain ⟨g3, e3⟩ := sum_good (M := M + N) (by omega) h
  refine ⟨?_, g1.len, g2.len, g3.len⟩
  unfold addE
  rw [if_neg (not_not_intro (g1.both g2))]
  have a1 : addS (sumT M).1 (sumT N).1 = resQ (sumL M + sumL N) := by
    unfold addS
    simp [ifOk, bothE, g1.lo.ok, g2.lo.ok, g1.lo.val, g2.lo.val]
  have a2 : addS (sumT M).2 (sumT N).2 = resQ (sumH M + sumH N) := by
    unfold addS
    simp [ifOk, bothE, g1.hi.ok, g2.hi.ok, g1.hi.val, g2.hi.val]
  rw [a1, a2, (sumQ_add M N).1, (sumQ_add M N).2]
  exact e3
theorem sum_zero : sumT 0 = ([48], [48]) := by decide +kernel
end Go.Proofs.YtlnonmmaknhppaaGreatDoor
namespace Go.Proofs.YtlnonmmaknhppaaGreatDoor
open Go.RowKit
theorem flat2_append (l m : List (Value × Value)) : flat2 (l ++ m) = flat2 l ++ flat2 m := by simp [flat2]
end Go.Proofs.YtlnonmmaknhppaaGreatDoor
namespace Go.Proofs.YtlnonmmaknhppaaGreatDoor
open Go.RowKit
set_option maxHeartbeats 8000000 in
set_option maxRecDepth 100000 in
theorem op0_any (x y : Num) (v u : Value) (w : World) (hv : NumV w v x) (hu : NumV w u y) (hx : LenN 40 x) (hy : LenN 40 y) :
    Calls Tryz.prog 202 #[v, u] w (OpOk (sumN x y) w) := by
  have HV := Lib.hid hv
  have HU := Lib.hid hu
  have HLX := Lib.hid hx
  have HLY := Lib.hid hy
  obtain ⟨ta, tc, ba, bc, rfl, h1, h2⟩ := hv
  obtain ⟨ua, uc, va, vc, rfl, h3, h4⟩ := hu
  obtain ⟨s, t, d⟩ := x
  obtain ⟨r, p, q⟩ := y
  obtain ⟨l1, l2⟩ := hx
  obtain ⟨l3, l4⟩ := hy
  dsimp only at h1 h2 h3 h4 l1 l2 l3 l4 ⊢
  have HS := Lib.hid (fun W (hW : Ext w W) => sum_any (s, t, d) (r, p, q) _ _ W (HV.out.ext hW) (HU.out.ext hW) HLX.out HLY.out)
  generalize sumN (s, t, d) (r, p, q) = SN at *
  clear h1 h2 h3 h4
  have E : Ext w (((w.alloc (.cells #[.bool s, (.slice ta (toB 1000000000 t).length tc), (.slice ba (toB 1000000000 d).length bc)] 108)).alloc (.cells #[.bool r, (.slice ua (toB 1000000000 p).length uc), (.slice va (toB 1000000000 q).length vc)] 108)).alloc (.cells #[.bool false, .slice none 0 0, .slice none 0 0] 108)) := extA
  have A : Num3 w.heap.size (((w.alloc (.cells #[.bool s, (.slice ta (toB 1000000000 t).length tc), (.slice ba (toB 1000000000 d).length bc)] 108)).alloc (.cells #[.bool r, (.slice ua (toB 1000000000 p).length uc), (.slice va (toB 1000000000 q).length vc)] 108)).alloc (.cells #[.bool false, .slice none 0 0, .slice none 0 0] 108)) (.bool s) (.slice ta (toB 1000000000 t).length tc) (.slice ba (toB 1000000000 d).length bc) := ⟨by go_simp, by go_simp, by go_simp, by go_simp, by go_simp, by go_simp⟩
  have B : Num3 (w.heap.size + 1) (((w.alloc (.cells #[.bool s, (.slice ta (toB 1000000000 t).length tc), (.slice ba (toB 1000000000 d).length bc)] 108)).alloc (.cells #[.bool r, (.slice ua (toB 1000000000 p).length uc), (.slice va (toB 1000000000 q).length vc)] 108)).alloc (.cells #[.bool false, .slice none 0 0, .slice none 0 0] 108)) (.bool r) (.slice ua (toB 1000000000 p).length uc) (.slice va (toB 1000000000 q).length vc) := ⟨by go_simp, by go_simp, by go_simp, by go_simp, by go_simp, by go_simp⟩
  have R : Num3 (w.heap.size + 1 + 1) (((w.alloc (.cells #[.bool s, (.slice ta (toB 1000000000 t).length tc), (.slice ba (toB 1000000000 d).length bc)] 108)).alloc (.cells #[.bool r, (.slice ua (toB 1000000000 p).length uc), (.slice va (toB 1000000000 q).length vc)] 108)).alloc (.cells #[.bool false, .slice none 0 0, .slice none 0 0] 108)) (.bool false) (.slice none 0 0) (.slice none 0 0) := ⟨by go_simp, by go_simp, by go_simp, by go_simp, by go_simp, by go_simp⟩
  go_enter Tryz.func202, Tryz.ntmps202
  go_wp2_with fail
  generalize (((w.alloc (.cells #[.bool s, (.slice ta (toB 1000000000 t).length tc), (.slice ba (toB 1000000000 d).length bc)] 108)).alloc (.cells #[.bool r, (.slice ua (toB 1000000000 p).length uc), (.slice va (toB 1000000000 q).length vc)] 108)).alloc (.cells #[.bool false, .slice none 0 0, .slice none 0 0] 108)) = W at E A B R ⊢
  refine (HS.out _ E).mono ?_
  rintro e w4 ⟨z, rfl, hz, hn, hE⟩
  have hz0 : w.heap.size + 1 + 1 < W.heap.size := cell_lt R.c0
  replace R := R.ext hE
  replace E := E.trans hE
  clear hE
  obtain ⟨za, zc, ya, yc, rfl, k1, k2⟩ := hz
  have HZ := Lib.hid (NumV.set (c := w.heap.size + 1 + 1) (o := 2) (u := .slice ya (toB 1000000000 SN.2.2).length yc) (NumV.set (c := w.heap.size + 1 + 1) (o := 1) (u := .slice za (toB 1000000000 SN.2.1).length zc) (NumV.set (c := w.heap.size + 1 + 1) (o := 0) (u := .bool SN.1) ⟨za, zc, ya, yc, rfl, k1, k2⟩ hn hz0) hn hz0) hn hz0)
  obtain ⟨c0, c1, c2, f0, f1, f2⟩ := R
  have HNN := Lib.hid (hn _ _ _ _ _ _ _ rfl)
  clear k1 k2 hn A B
  go_wp2_with fail
  refine bodyPost_ret (v := .tuple #[.agg #[.bool SN.1, .slice za (toB 1000000000 SN.2.1).length zc, .slice ya (toB 1000000000 SN.2.2).length yc], .int .i64 0]) (by rw [results_cell_tmp1 rfl]; go_simp) rfl ?_
  exact ⟨_, rfl, HZ.out, newN_mk (fun hl z hz => by have := (HNN.out.1 hl z hz); omega) (fun hl z hz => by have := (HNN.out.2 hl z hz); omega), extA⟩
end Go.Proofs.YtlnonmmaknhppaaGreatDoor
namespace Go.Proofs.YtlnonmmaknhppaaGreatDoor
open Go.RowKit
theorem lt_len {z k : Nat} (h : (toB 1000000000 z).length ≤ k) : z < 1000000000 ^ k := by
  have h1 := valB_lt (okB_toB (B := 1000000000) (by omega) z)
  rw [valB_toB (by omega)] at h1
  exact Nat.lt_of_lt_of_le h1 (Nat.pow_le_pow_right (by omega) h)
theorem sumN_len {x y : Num} (hx : LenN 40 x) (hy : LenN 40 y) : LenN 90 (sumN x y) := by
  obtain ⟨s, t, d⟩ := x
  obtain ⟨r, p, q⟩ := y
  have h1 := lt_len (mul_len hx.1 hy.2)
  have h2 := lt_len (mul_len hy.1 hx.2)
  have h3 := lt_len (mul_len hx.2 hy.2)
  have e : (1000000000 : Nat) ^ (40 + 40) * 2 ≤ 1000000000 ^ 90 := by
    have : (1000000000 : Nat) ^ 90 = 1000000000 ^ (40 + 40) * 1000000000 ^ 10 := by rw [← Nat.pow_add]
    rw [this]
    exact Nat.mul_le_mul_left _ (by omega)
  dsimp only at h1 h2 h3
  unfold sumN LenN
  dsimp only
  split
  · exact ⟨toB_len (by omega) 90 (by dsimp only; omega), toB_len (by omega) 90 (by dsimp only; omega)⟩
  · split
    · exact ⟨toB_len (by omega) 90 (by dsimp only; omega), toB_len (by omega) 90 (by dsimp only; omega)⟩
    · exact ⟨toB_len (by omega) 90 (by dsimp only; omega), toB_len (by omega) 90 (by dsimp only; omega)⟩
theorem add_res {a b : Txt} : (fracE a ≠ 0 → addS a b = ([], fracE a)) ∧ (fracE a = 0 → fracE b ≠ 0 → addS a b = ([], fracE b)) ∧ (fracE a = 0 → fracE b = 0 → addS a b = resQ (fracQ a + fracQ b)) := by
  unfold addS ifOk badR
  refine ⟨fun h => ?_, fun h k => ?_, fun h k => ?_⟩
  · rw [bothE_left h, if_neg h]
  · rw [bothE_right h, if_neg k]
  · rw [bothE_zero h k, if_pos rfl]
theorem op_index0 (W : World) : (Instr.index 210 (.agg #[.func (.func 202) #[] #[], .func (.func 203) #[] #[], .func (.func 204) #[] #[], .func (.func 205) #[] #[]]) (.int .i64 0)).run Tryz.prog W = .ok (.agg #[.func (.func 202) #[] #[]]) W := by
  simp [Instr.index, go_sem]
end Go.Proofs.YtlnonmmaknhppaaGreatDoor
namespace Go.Proofs.YtlnonmmaknhppaaGreatDoor
open Go.RowKit
set_option maxHeartbeats 16000000 in
set_option maxRecDepth 100000 in
theorem computed0_any (a b : Txt) (w : World) (hG : Glob w) (ha : a.length ≤ 400) (hb : b.length ≤ 400) :
    Calls Tryz.prog 124 #[.int .i64 0, txt a, txt b] w (ResPost (addS a b) w) := by
  have HG := Lib.hid hG
  have HPA := Lib.hid (fun W (hW : Ext w W) => parsed_any a W (hG.ext hW) ha)
  have HPB := Lib.hid (fun W (hW : Ext w W) => parsed_any b W (hG.ext hW) hb)
  have HRES := Lib.hid (@add_res a b)
  clear hG
  go_enter Tryz.func124, Tryz.ntmps124
  go_wp2_with fail
  refine (HPA.out _ (Ext.refl _)).mono ?_
  rintro e w1 ⟨v1, rfl, ⟨s1, ta, tn, tc, ba, bn, bc, rfl⟩, hn1, hE⟩
  have HN1 := Lib.hid hn1
  clear hn1 HPA
  by_cases ea : fracE a = 0
  rotate_left
  · have HR := Lib.hid (HRES.out.1 ea)
    have hne : (((fracE a : Nat) : Int) != 0) = true := by rw [bne_iff_ne]; omega
    clear HN1 HPB HRES
    generalize fracE a = n at *
    go_wp2_with fail
    go_ret2
    exact ⟨by rw [HR.out]; rfl, extA⟩
  have HNA := Lib.hid (HN1.out ea)
  rw [ea]
  have HEA := Lib.hid ea
  clear ea HN1
  have EV : Ext w1 (w1.alloc (.cells #[.bool s1, .slice ta tn tc, .slice ba bn bc] 108)) := extA
  have X : Num3 w1.heap.size (w1.alloc (.cells #[.bool s1, .slice ta tn tc, .slice ba bn bc] 108)) (.bool s1) (.slice ta tn tc) (.slice ba bn bc) := ⟨by go_simp, by go_simp, by go_simp, by go_simp, by go_simp, by go_simp⟩
  have E := hE.trans EV
  replace HNA := Lib.hid (HNA.out.ext EV)
  clear EV hE
  go_wp2_with fail
  obtain ⟨xb, hxb⟩ : ∃ xb, xb = w1.heap.size := ⟨_, rfl⟩
  rw [← hxb] at X ⊢
  clear hxb
  generalize (w1.alloc (.cells #[.bool s1, .slice ta tn tc, .slice ba bn bc] 108)) = W1 at X E HNA ⊢
  refine (HPB.out _ E).mono ?_
  rintro e w3 ⟨v2, rfl, ⟨s2, ua, un, uc, va, vn, vc, rfl⟩, hn2, hE⟩
  replace X := X.ext hE
  replace E := E.trans hE
  replace HNA := Lib.hid (HNA.out.ext hE)
  have HN2 := Lib.hid hn2
  clear hn2 HPB hE
  by_cases eb : fracE b = 0
  rotate_left
  · have HR := Lib.hid (HRES.out.2.1 HEA.out eb)
    have hne : (((fracE b : Nat) : Int) != 0) = true := by rw [bne_iff_ne]; omega
    clear HN2 HRES HEA
    generalize fracE b = n at *
    go_wp2_with fail
    go_ret2
    exact ⟨by rw [HR.out]; rfl, extA⟩
  have HNB := Lib.hid (HN2.out eb)
  rw [eb]
  have HEB := Lib.hid eb
  clear eb HN2
  have EV : Ext w3 (w3.alloc (.cells #[.bool s2, .slice ua un uc, .slice va vn vc] 108)) := extA
  have Y : Num3 w3.heap.size (w3.alloc (.cells #[.bool s2, .slice ua un uc, .slice va vn vc] 108)) (.bool s2) (.slice ua un uc) (.slice va vn vc) := ⟨by go_simp, by go_simp, by go_simp, by go_simp, by go_simp, by go_simp⟩
  replace X := X.ext EV
  replace E := E.trans EV
  replace HNA := Lib.hid (HNA.out.ext EV)
  replace HNB := Lib.hid (HNB.out.ext EV)
  clear EV
  go_wp2_with fail
  obtain ⟨yb, hyb⟩ : ∃ yb, yb = w3.heap.size := ⟨_, rfl⟩
  rw [← hyb] at Y ⊢
  clear hyb
  generalize (w3.alloc (.cells #[.bool s2, .slice ua un uc, .slice va vn vc] 108)) = W3 at X Y E HNA HNB ⊢
  have hix := op_index0
  have hfi := op_field
  have hxa := (numOf_len HEA.out).1
  have hyb := (numOf_len HEB.out).1
  go_cut [11, 9] (fun n ev wx => ∃ nb z0 z1 zn zc z2 zm zd, n = .pointer (some ⟨nb, 0, none⟩) ∧ ev = .int .i64 0 ∧ Hid (Num3 nb wx (.bool z0) (.slice z1 zn zc) (.slice z2 zm zd)) ∧ Hid (NumV wx (.agg #[.bool z0, .slice z1 zn zc, .slice z2 zm zd]) (sumN (numOf a) (numOf b))) ∧ Ext w wx)
  case first =>
    have hdr : Ext W3 W3.drew := extA
    replace X := X.ext hdr
    replace Y := Y.ext hdr
    replace E := E.trans hdr
    replace HNA := Lib.hid (HNA.out.ext hdr)
    replace HNB := Lib.hid (HNB.out.ext hdr)
    have hS : W3.drew.cell? ⟨xb, 0, none⟩ = some (.bool s1) ∧ W3.drew.cell? ⟨xb, 1, none⟩ = some (.slice ta tn tc) ∧ W3.drew.cell? ⟨xb, 2, none⟩ = some (.slice ba bn bc) ∧ W3.drew.cell? ⟨yb, 0, none⟩ = some (.bool s2) ∧ W3.drew.cell? ⟨yb, 1, none⟩ = some (.slice ua un uc) ∧ W3.drew.cell? ⟨yb, 2, none⟩ = some (.slice va vn vc) := ⟨X.c0, X.c1, X.c2, Y.c0, Y.c1, Y.c2⟩
    refine wp_region_heldE 11 (fun w' => w'.cell? ⟨xb, 0, none⟩ = some (.bool s1) ∧ w'.cell? ⟨xb, 1, none⟩ = some (.slice ta tn tc) ∧ w'.cell? ⟨xb, 2, none⟩ = some (.slice ba bn bc) ∧ w'.cell? ⟨yb, 0, none⟩ = some (.bool s2) ∧ w'.cell? ⟨yb, 1, none⟩ = some (.slice ua un uc) ∧ w'.cell? ⟨yb, 2, none⟩ = some (.slice va vn vc)) (by kernel_rfl) ?_
    clear hdr X Y
    generalize W3.drew = W4 at E HNA HNB hS ⊢
    ((refine eTk 1 ?_); (refine eTk 4 ?_); (refine eTk 5 ?_))
    refine wpAnyE_two (i := 0) (j := 10) (o := ?_) (p := ?_) ?_ ?_ (by kernel_rfl) (fun K hK => ?_) (fun K hK => ?_)
    rotate_left 2
    · simp only [List.getElem?_toArray, List.getElem?_cons_zero]; exact rfl
    · simp only [List.getElem?_toArray, List.getElem?_cons_succ, List.getElem?_cons_zero]; exact rfl
    · go_simp
      go_at_call 164
      refine (operations_any _).mono ?_
      rintro e w5 ⟨rfl, hE⟩
      go_wp2_with fail
      have hS5 : w5.cell? ⟨xb, 0, none⟩ = some (.bool s1) ∧ w5.cell? ⟨xb, 1, none⟩ = some (.slice ta tn tc) ∧ w5.cell? ⟨xb, 2, none⟩ = some (.slice ba bn bc) ∧ w5.cell? ⟨yb, 0, none⟩ = some (.bool s2) ∧ w5.cell? ⟨yb, 1, none⟩ = some (.slice ua un uc) ∧ w5.cell? ⟨yb, 2, none⟩ = some (.slice va vn vc) := ⟨hE.cell hS.1, hE.cell hS.2.1, hE.cell hS.2.2.1, hE.cell hS.2.2.2.1, hE.cell hS.2.2.2.2.1, hE.cell hS.2.2.2.2.2⟩
      refine hK.out _ _ hS5 (fun hHeld => ?_)
      clear hK K hHeld
      (try simp only [Act.put, List.setIfInBounds_toArray, List.set_cons_zero, List.set_cons_succ])
      replace E := E.trans hE
      replace HNA := Lib.hid (HNA.out.ext hE)
      replace HNB := Lib.hid (HNB.out.ext hE)
      clear hE hS
      ((refine eTk 2 ?_); (refine eTk 3 ?_))
      refine wpAnyE_two (i := 6) (j := 10) (o := ?_) (p := ?_) ?_ ?_ (by kernel_rfl) (fun K hK => ?_) (fun K hK => ?_)
      rotate_left 2
      · simp only [List.getElem?_toArray, List.getElem?_cons_succ, List.getElem?_cons_zero]; exact rfl
      · simp only [List.getElem?_toArray, List.getElem?_cons_succ, List.getElem?_cons_zero]; exact rfl
      · go_simp
        go_at_call 202
        refine (op0_any (numOf a) (numOf b) _ _ _ HNA.out HNB.out hxa hyb).mono ?_; rintro e w6 ⟨z, rfl, hz, hzn, hE⟩; obtain ⟨z1, zc, z2, zd, rfl, k1, k2⟩ := hz
        go_wp2_with fail
        have hS6 : w6.cell? ⟨xb, 0, none⟩ = some (.bool s1) ∧ w6.cell? ⟨xb, 1, none⟩ = some (.slice ta tn tc) ∧ w6.cell? ⟨xb, 2, none⟩ = some (.slice ba bn bc) ∧ w6.cell? ⟨yb, 0, none⟩ = some (.bool s2) ∧ w6.cell? ⟨yb, 1, none⟩ = some (.slice ua un uc) ∧ w6.cell? ⟨yb, 2, none⟩ = some (.slice va vn vc) := ⟨hE.cell hS5.1, hE.cell hS5.2.1, hE.cell hS5.2.2.1, hE.cell hS5.2.2.2.1, hE.cell hS5.2.2.2.2.1, hE.cell hS5.2.2.2.2.2⟩
        refine hK.out _ _ hS6 (fun hHeld => ?_)
        clear hK K hHeld hS5
        (try simp only [Act.put, List.setIfInBounds_toArray, List.set_cons_zero, List.set_cons_succ])
        ((refine ePu 7 ?_); (refine ePu 8 ?_); (refine ePu 9 ?_))
        have EA : Ext w6 (w6.alloc (.cells #[.bool false, .slice none 0 0, .slice none 0 0] 108)) := extA
        have N : Num3 w6.heap.size (w6.alloc (.cells #[.bool false, .slice none 0 0, .slice none 0 0] 108)) (.bool false) (.slice none 0 0) (.slice none 0 0) := ⟨by go_simp, by go_simp, by go_simp, by go_simp, by go_simp, by go_simp⟩
        (refine wpAnyE_one (i := 10) (o := ?_) ?_ (by kernel_rfl) (fun K hK => ?_); rotate_left; (focus ((simp only [List.getElem?_toArray, List.getElem?_cons_succ, List.getElem?_cons_zero]; exact rfl))); go_simp; refine hK.out _ _ ?_ (fun hHeld => ?_); rotate_left; clear hK K; (try simp only [Act.put, List.setIfInBounds_toArray, List.set_cons_zero, List.set_cons_succ]))
        rotate_left
        · exact ⟨EA.cell hS6.1, EA.cell hS6.2.1, EA.cell hS6.2.2.1, EA.cell hS6.2.2.2.1, EA.cell hS6.2.2.2.2.1, EA.cell hS6.2.2.2.2.2⟩
        obtain ⟨nb, hnb⟩ : ∃ nb, nb = w6.heap.size := ⟨_, rfl⟩
        rw [← hnb] at N ⊢
        have hnw : w6.heap.size ≤ nb := by omega
        have hww : w.heap.size ≤ nb := by have := (E.trans hE).size; omega
        have E6 := (E.trans hE).trans EA
        have HEA := Lib.hid EA
        clear EA hS6 hHeld hnb E hE
        generalize (w6.alloc (.cells #[.bool false, .slice none 0 0, .slice none 0 0] 108)) = W7 at N HEA E6 ⊢
        have HN := Lib.hid N
        obtain ⟨x0, x1, x2, g0, g1, g2⟩ := N
        (refine wpAnyE_free (i := 11) (o := ?_) ?_ (by kernel_rfl) (by kernel_rfl) (fun K hK => ?_); rotate_left; (focus ((simp only [List.getElem?_toArray, List.getElem?_cons_succ, List.getElem?_cons_zero]; exact rfl))); go_simp; refine hK.out _ _ ?_; clear hK K; (try simp only [Act.put, List.setIfInBounds_toArray, List.set_cons_zero, List.set_cons_succ]))
        ((refine ePu 12 ?_))
        refine wpAnyE_done (by kernel_rfl) ?_ _
        go_wp2_with fail
        go_meet
        refine ⟨nb, _, _, _, _, _, _, _, rfl, rfl, ((HN.out.set0 _).set1 _).set2 _, ?_, extA⟩
        exact NumV.ext ⟨z1, zc, z2, zd, rfl, k1, k2⟩ (((HEA.out.set hnw _).set hnw _).set hnw _)
      · go_simp
        have EA : Ext w5 (w5.alloc (.cells #[.bool false, .slice none 0 0, .slice none 0 0] 108)) := extA
        have N : Num3 w5.heap.size (w5.alloc (.cells #[.bool false, .slice none 0 0, .slice none 0 0] 108)) (.bool false) (.slice none 0 0) (.slice none 0 0) := ⟨by go_simp, by go_simp, by go_simp, by go_simp, by go_simp, by go_simp⟩
        have hSA : (w5.alloc (.cells #[.bool false, .slice none 0 0, .slice none 0 0] 108)).cell? ⟨xb, 0, none⟩ = some (.bool s1) ∧ (w5.alloc (.cells #[.bool false, .slice none 0 0, .slice none 0 0] 108)).cell? ⟨xb, 1, none⟩ = some (.slice ta tn tc) ∧ (w5.alloc (.cells #[.bool false, .slice none 0 0, .slice none 0 0] 108)).cell? ⟨xb, 2, none⟩ = some (.slice ba bn bc) ∧ (w5.alloc (.cells #[.bool false, .slice none 0 0, .slice none 0 0] 108)).cell? ⟨yb, 0, none⟩ = some (.bool s2) ∧ (w5.alloc (.cells #[.bool false, .slice none 0 0, .slice none 0 0] 108)).cell? ⟨yb, 1, none⟩ = some (.slice ua un uc) ∧ (w5.alloc (.cells #[.bool false, .slice none 0 0, .slice none 0 0] 108)).cell? ⟨yb, 2, none⟩ = some (.slice va vn vc) := ⟨EA.cell hS5.1, EA.cell hS5.2.1, EA.cell hS5.2.2.1, EA.cell hS5.2.2.2.1, EA.cell hS5.2.2.2.2.1, EA.cell hS5.2.2.2.2.2⟩
        refine hK.out _ _ hSA (fun hHeld => ?_)
        clear hK K hHeld hS5
        (try simp only [Act.put, List.setIfInBounds_toArray, List.set_cons_zero, List.set_cons_succ])
        obtain ⟨nb, hnb⟩ : ∃ nb, nb = w5.heap.size := ⟨_, rfl⟩
        rw [← hnb] at N ⊢
        have hww : w.heap.size ≤ nb := by have := E.size; omega
        replace E := E.trans EA
        replace HNA := Lib.hid (HNA.out.ext EA)
        replace HNB := Lib.hid (HNB.out.ext EA)
        clear EA hnb
        generalize (w5.alloc (.cells #[.bool false, .slice none 0 0, .slice none 0 0] 108)) = w5 at N hSA E HNA HNB ⊢
        (refine wpAnyE_one (i := 6) (o := ?_) ?_ (by kernel_rfl) (fun K hK => ?_); rotate_left; (focus ((simp only [List.getElem?_toArray, List.getElem?_cons_succ, List.getElem?_cons_zero]; exact rfl))); go_simp; go_at_call 202; refine (op0_any (numOf a) (numOf b) _ _ _ HNA.out HNB.out hxa hyb).mono ?_; rintro e w6 ⟨z, rfl, hz, hzn, hE⟩; obtain ⟨z1, zc, z2, zd, rfl, k1, k2⟩ := hz; go_wp2_with fail; refine hK.out _ _ ?_ (fun hHeld => ?_); rotate_left; clear hK K; (try simp only [Act.put, List.setIfInBounds_toArray, List.set_cons_zero, List.set_cons_succ]))
        rotate_left
        · exact ⟨hE.cell hSA.1, hE.cell hSA.2.1, hE.cell hSA.2.2.1, hE.cell hSA.2.2.2.1, hE.cell hSA.2.2.2.2.1, hE.cell hSA.2.2.2.2.2⟩
        have N6 := N.ext hE
        have hnl : nb < w5.heap.size := cell_lt N.c0
        have E6 := E.trans hE
        clear hSA N E hE
        ((refine ePu 7 ?_); (refine ePu 8 ?_); (refine ePu 9 ?_))
        clear hHeld
        have HN := Lib.hid N6
        obtain ⟨x0, x1, x2, g0, g1, g2⟩ := N6
        (refine wpAnyE_free (i := 11) (o := ?_) ?_ (by kernel_rfl) (by kernel_rfl) (fun K hK => ?_); rotate_left; (focus ((simp only [List.getElem?_toArray, List.getElem?_cons_succ, List.getElem?_cons_zero]; exact rfl))); go_simp; refine hK.out _ _ ?_; clear hK K; (try simp only [Act.put, List.setIfInBounds_toArray, List.set_cons_zero, List.set_cons_succ]))
        ((refine ePu 12 ?_))
        refine wpAnyE_done (by kernel_rfl) ?_ _
        go_wp2_with fail
        go_meet
        refine ⟨nb, _, _, _, _, _, _, _, rfl, rfl, ((HN.out.set0 _).set1 _).set2 _, ?_, extA⟩
        exact NumV.set (NumV.set (NumV.set ⟨z1, zc, z2, zd, rfl, k1, k2⟩ hzn hnl) hzn hnl) hzn hnl
    · go_simp
      have EA : Ext W4 (W4.alloc (.cells #[.bool false, .slice none 0 0, .slice none 0 0] 108)) := extA
      have N : Num3 W4.heap.size (W4.alloc (.cells #[.bool false, .slice none 0 0, .slice none 0 0] 108)) (.bool false) (.slice none 0 0) (.slice none 0 0) := ⟨by go_simp, by go_simp, by go_simp, by go_simp, by go_simp, by go_simp⟩
      have hSA : (W4.alloc (.cells #[.bool false, .slice none 0 0, .slice none 0 0] 108)).cell? ⟨xb, 0, none⟩ = some (.bool s1) ∧ (W4.alloc (.cells #[.bool false, .slice none 0 0, .slice none 0 0] 108)).cell? ⟨xb, 1, none⟩ = some (.slice ta tn tc) ∧ (W4.alloc (.cells #[.bool false, .slice none 0 0, .slice none 0 0] 108)).cell? ⟨xb, 2, none⟩ = some (.slice ba bn bc) ∧ (W4.alloc (.cells #[.bool false, .slice none 0 0, .slice none 0 0] 108)).cell? ⟨yb, 0, none⟩ = some (.bool s2) ∧ (W4.alloc (.cells #[.bool false, .slice none 0 0, .slice none 0 0] 108)).cell? ⟨yb, 1, none⟩ = some (.slice ua un uc) ∧ (W4.alloc (.cells #[.bool false, .slice none 0 0, .slice none 0 0] 108)).cell? ⟨yb, 2, none⟩ = some (.slice va vn vc) := ⟨EA.cell hS.1, EA.cell hS.2.1, EA.cell hS.2.2.1, EA.cell hS.2.2.2.1, EA.cell hS.2.2.2.2.1, EA.cell hS.2.2.2.2.2⟩
      refine hK.out _ _ hSA (fun hHeld => ?_)
      clear hK K hHeld hS
      (try simp only [Act.put, List.setIfInBounds_toArray, List.set_cons_zero, List.set_cons_succ])
      obtain ⟨nb, hnb⟩ : ∃ nb, nb = W4.heap.size := ⟨_, rfl⟩
      rw [← hnb] at N ⊢
      have hww : w.heap.size ≤ nb := by have := E.size; omega
      replace E := E.trans EA
      replace HNA := Lib.hid (HNA.out.ext EA)
      replace HNB := Lib.hid (HNB.out.ext EA)
      clear EA hnb
      generalize (W4.alloc (.cells #[.bool false, .slice none 0 0, .slice none 0 0] 108)) = W5 at N hSA E HNA HNB ⊢
      (refine wpAnyE_one (i := 0) (o := ?_) ?_ (by kernel_rfl) (fun K hK => ?_); rotate_left; (focus ((simp only [List.getElem?_toArray, List.getElem?_cons_zero]; exact rfl))); go_simp; go_at_call 164; refine (operations_any _).mono ?_; rintro e w5 ⟨rfl, hE⟩; go_wp2_with fail; refine hK.out _ _ ?_ (fun hHeld => ?_); rotate_left; clear hK K; (try simp only [Act.put, List.setIfInBounds_toArray, List.set_cons_zero, List.set_cons_succ]))
      rotate_left
      · exact ⟨hE.cell hSA.1, hE.cell hSA.2.1, hE.cell hSA.2.2.1, hE.cell hSA.2.2.2.1, hE.cell hSA.2.2.2.2.1, hE.cell hSA.2.2.2.2.2⟩
      replace hSA : w5.cell? ⟨xb, 0, none⟩ = some (.bool s1) ∧ w5.cell? ⟨xb, 1, none⟩ = some (.slice ta tn tc) ∧ w5.cell? ⟨xb, 2, none⟩ = some (.slice ba bn bc) ∧ w5.cell? ⟨yb, 0, none⟩ = some (.bool s2) ∧ w5.cell? ⟨yb, 1, none⟩ = some (.slice ua un uc) ∧ w5.cell? ⟨yb, 2, none⟩ = some (.slice va vn vc) := ⟨hE.cell hSA.1, hE.cell hSA.2.1, hE.cell hSA.2.2.1, hE.cell hSA.2.2.2.1, hE.cell hSA.2.2.2.2.1, hE.cell hSA.2.2.2.2.2⟩
      replace N := N.ext hE
      replace E := E.trans hE
      replace HNA := Lib.hid (HNA.out.ext hE)
      replace HNB := Lib.hid (HNB.out.ext hE)
      clear hE hHeld
      ((refine eTk 2 ?_); (refine eTk 3 ?_))
      (refine wpAnyE_one (i := 6) (o := ?_) ?_ (by kernel_rfl) (fun K hK => ?_); rotate_left; (focus ((simp only [List.getElem?_toArray, List.getElem?_cons_succ, List.getElem?_cons_zero]; exact rfl))); go_simp; go_at_call 202; refine (op0_any (numOf a) (numOf b) _ _ _ HNA.out HNB.out hxa hyb).mono ?_; rintro e w6 ⟨z, rfl, hz, hzn, hE⟩; obtain ⟨z1, zc, z2, zd, rfl, k1, k2⟩ := hz; go_wp2_with fail; refine hK.out _ _ ?_ (fun hHeld => ?_); rotate_left; clear hK K; (try simp only [Act.put, List.setIfInBounds_toArray, List.set_cons_zero, List.set_cons_succ]))
      rotate_left
      · exact ⟨hE.cell hSA.1, hE.cell hSA.2.1, hE.cell hSA.2.2.1, hE.cell hSA.2.2.2.1, hE.cell hSA.2.2.2.2.1, hE.cell hSA.2.2.2.2.2⟩
      have N6 := N.ext hE
      have hnl : nb < w5.heap.size := cell_lt N.c0
      have E6 := E.trans hE
      clear hSA N E hE
      ((refine ePu 7 ?_); (refine ePu 8 ?_); (refine ePu 9 ?_))
      clear hHeld
      have HN := Lib.hid N6
      obtain ⟨x0, x1, x2, g0, g1, g2⟩ := N6
      (refine wpAnyE_free (i := 11) (o := ?_) ?_ (by kernel_rfl) (by kernel_rfl) (fun K hK => ?_); rotate_left; (focus ((simp only [List.getElem?_toArray, List.getElem?_cons_succ, List.getElem?_cons_zero]; exact rfl))); go_simp; refine hK.out _ _ ?_; clear hK K; (try simp only [Act.put, List.setIfInBounds_toArray, List.set_cons_zero, List.set_cons_succ]))
      ((refine ePu 12 ?_))
      refine wpAnyE_done (by kernel_rfl) ?_ _
      go_wp2_with fail
      go_meet
      refine ⟨nb, _, _, _, _, _, _, _, rfl, rfl, ((HN.out.set0 _).set1 _).set2 _, ?_, extA⟩
      exact NumV.set (NumV.set (NumV.set ⟨z1, zc, z2, zd, rfl, k1, k2⟩ hzn hnl) hzn hnl) hzn hnl
  case rest =>
    obtain ⟨nb, z0, z1, zn, zc, z2, zm, zd, rfl, rfl, N, HZ, E⟩ := hcut
    have ka := (numOf_len HEA.out).2
    have kb := (numOf_len HEB.out).2
    have hval : valQ (sumN (numOf a) (numOf b)) = fracQ a + fracQ b := (sumN_val ka kb).1.trans (by rw [numOf_val, numOf_val])
    have hden : (sumN (numOf a) (numOf b)).2.2 ≠ 0 := (sumN_val ka kb).2
    have hlen := sumN_len hxa hyb
    have HRR := Lib.hid (HRES.out.2.2 HEA.out HEB.out)
    generalize sumN (numOf a) (numOf b) = SN at *
    have HW := Lib.hid (written_any SN.1 SN.2.1 SN.2.2 _ _ HZ.out hden (HG.out.ext E) hlen.1 hlen.2)
    have HV := Lib.hid (show numQ SN.1 SN.2.1 SN.2.2 = fracQ a + fracQ b from hval)
    obtain ⟨x0, x1, x2, _, _, _⟩ := N.out
    clear X Y HNA HNB HRES HZ N hval hden hlen ka kb hxa hyb
    go_wp2_with (go_at_call 111; refine HW.out.mono ?_; rintro e w9 ⟨rfl, hE⟩)
    go_ret2
    exact ⟨by rw [HRR.out, HV.out]; rfl, E.trans hE⟩
end Go.Proofs.YtlnonmmaknhppaaGreatDoor
namespace Go.Proofs.YtlnonmmaknhppaaGreatDoor
open Go.RowKit
open Go.Lib (decDigits itoa)
set_option maxHeartbeats 2000000 in
theorem add_any (a b : Txt) (w : World) (hG : Glob w) (ha : a.length ≤ 400) (hb : b.length ≤ 400) : Calls Tryz.prog 93 #[txt a, txt b] w (ResP (addS a b) w) := by
  have H := Lib.hid (computed0_any a b w hG ha hb)
  clear hG
  go_enter Tryz.func93, Tryz.ntmps93
  go_wp2_with (go_at_call 124; refine H.out.mono ?_; rintro e w1 ⟨rfl, hE⟩)
  go_ret2
  exact ⟨rfl, hE⟩
end Go.Proofs.YtlnonmmaknhppaaGreatDoor
namespace Go.Proofs.YtlnonmmaknhppaaGreatDoor
open Go.RowKit
open Go.Lib (decDigits itoa)
theorem sumN_lenR {k l : Nat} {x y : Num} (hx : LenR k x) (hy : LenR l y) : LenR (k + l + 1) (sumN x y) := by
  obtain ⟨s, t, d⟩ := x
  obtain ⟨r, p, q⟩ := y
  have m1 := mul_lenR hx.1 hy.2
  have m2 := mul_lenR hy.1 hx.2
  have m3 := mul_lenR hx.2 hy.2
  dsimp only at m1 m2 m3
  have e : sumN (s, t, d) (r, p, q) = if s = r then (s, t * q + p * d, d * q) else if p * d ≤ t * q then (s, t * q - p * d, d * q) else (r, p * d - t * q, d * q) := rfl
  have hp : (1000000 : Nat) ^ (k + l + 1) = 1000000 * 1000000 ^ (k + l) := by rw [Nat.pow_succ, Nat.mul_comm]
  have lt : ∀ {z j : Nat}, (toB 1000000 z).length ≤ j → z < 1000000 ^ j := fun {z j} h => by
    have h1 := valB_lt (okB_toB (B := 1000000) (by omega) z)
    rw [valB_toB (by omega)] at h1
    exact Nat.lt_of_lt_of_le h1 (Nat.pow_le_pow_right (by omega) h)
  have n1 := lt m1
  have n2 := lt m2
  rw [Nat.add_comm l k] at n2
  have h3 : (toB 1000000 (d * q)).length ≤ k + l + 1 := by omega
  rw [e]
  split
  · exact ⟨toB_len (by omega) _ (by dsimp only; omega), h3⟩
  · split
    · exact ⟨toB_len (by omega) _ (by dsimp only; omega), h3⟩
    · exact ⟨toB_len (by omega) _ (by dsimp only; omega), h3⟩
theorem add_num {a b : Txt} (ea : fracE a = 0) (eb : fracE b = 0) : addS a b = resQ (valQ (sumN (numOf a) (numOf b))) ∧ (sumN (numOf a) (numOf b)).2.2 ≠ 0 := by
  obtain ⟨h1, h2⟩ := sumN_val (numOf_len ea).2 (numOf_len eb).2
  refine ⟨?_, h2⟩
  unfold addS ifOk
  rw [if_pos (bothE_zero ea eb), h1, numOf_val, numOf_val]
set_option maxHeartbeats 4000000 in
set_option maxRecDepth 100000 in
theorem rAdd_any (a b : Txt) (w : World) (ha : a.length ≤ 400) (hb : b.length ≤ 400) : Calls Tryz.prog 131 #[txt a, txt b] w (ResP (addS a b) w) := by
  have HB := Lib.hid (rBoth_any a b w ha hb)
  unfold ResP
  by_cases e0 : bothE a b = 0
  rotate_left
  · have HR : Hid (addS a b = ([], bothE a b)) := by show _ = _; unfold addS ifOk badR; rw [if_neg e0]
    have hne : (((bothE a b : Nat) : Int) != 0) = true := by rw [bne_iff_ne]; omega
    rw [HR.out]
    clear e0 HR
    generalize bothE a b = n at *
    go_enter Tryz.func131, Tryz.ntmps131
    go_wp2_with (go_at_call 171; with_reducible refine HB.out.mono ?_; rintro e w1 ⟨rfl, hE⟩)
    go_ret2
    exact ⟨rfl, hE⟩
  obtain ⟨ea, eb⟩ := both_two e0
  have HN1 := Lib.hid (fun W => numR_any a W ea ha)
  have HN2 := Lib.hid (fun W => numR_any b W eb hb)
  have HL1 := Lib.hid (numOf_lenR ea)
  have HL2 := Lib.hid (numOf_lenR eb)
  have HR := Lib.hid (add_num ea eb)
  rw [e0] at HB
  clear e0 ea eb
  rw [HR.out.1, res_val]
  generalize numOf a = NA at *
  generalize numOf b = NB at *
  have HLS := Lib.hid (sumN_lenR HL1.out HL2.out)
  obtain ⟨SN, hSN⟩ : ∃ SN, SN = sumN NA NB := ⟨_, rfl⟩
  rw [← hSN] at HR HLS ⊢
  have HSN := Lib.hid hSN
  clear hSN
  go_enter Tryz.func131, Tryz.ntmps131
  go_wp2_with (first
    | (go_at_call 171; with_reducible refine HB.out.mono ?_; rintro e w1 ⟨rfl, hE⟩)
    | (go_at_call 104; have hh := HN1; clear HN1; refine (hh.out _).mono ?_; clear hh; rintro e w2 ⟨v2, rfl, n2, e2⟩))
  go_wp2_with (go_at_call 104; refine (HN2.out _).mono ?_; rintro e w3 ⟨v3, rfl, n3, e3⟩)
  have E := (hE.trans e2).trans e3
  have n2 := n2.ext e3
  go_wp2_with (go_at_call 103; refine (rSum_any NA NB v2 v3 w3 n2 n3 (HL1.out.mono (by omega)) (HL2.out.mono (by omega))).mono ?_; rintro e w5 ⟨v5, rfl, n5, e5⟩)
  replace E := E.trans e5
  rw [← HSN.out] at n5
  go_wp2_with (go_at_call 172; refine (madeR_any SN.1 SN.2.1 SN.2.2 v5 w5 n5 HR.out.2 (Nat.le_trans HLS.out.1 (by omega)) (Nat.le_trans HLS.out.2 (by omega))).mono ?_; rintro e w6 ⟨rfl, e6⟩)
  go_ret2
  exact ⟨rfl, E.trans e6⟩
end Go.Proofs.YtlnonmmaknhppaaGreatDoor
namespace Go.Proofs.YtlnonmmaknhppaaGreatDoor
open Go.RowKit
theorem enters47 : ∀ args w, (callFunc 93 args).run Tryz.prog w = .ok (.enter 93 args) w := enters_of Tryz.func93 (by kernel_rfl) rfl
set_option maxHeartbeats 8000000 in
set_option maxRecDepth 100000 in
theorem eAdd_any (a b : Enc) (w : World) (hG : Glob w) (hl : LenE a) (hm : LenE b) : Calls Tryz.prog 48 #[encV a, encV b] w (EncP (addE a b) w) := by
  have HB := Lib.hid (checked_two a b w hG hl hm)
  have HE := Lib.hid (fun W (h : Ext w W) => eEnds_any 93 a.1 b.1 a.2 b.2 (addS a.1 b.1) (addS a.2 b.2) W enters47
    (fun V g => add_any _ _ V (hG.ext (h.trans g)) hl.1 hm.1) (fun V g => add_any _ _ V (hG.ext (h.trans g)) hl.2 hm.2))
  unfold EncP at HE ⊢
  obtain ⟨C, hC⟩ : ∃ C, C = addE a b := ⟨_, rfl⟩
  rw [← hC]
  have hne0 : (((0 : Nat) : Int) != 0) = false := rfl
  by_cases e0 : bothEE a b = 0
  rotate_left
  · have HR : Hid (C = (([], []), bothEE a b)) := by show _ = _; rw [hC]; unfold addE badEnc; rw [if_pos e0]
    have hne : (((bothEE a b : Nat) : Int) != 0) = true := by rw [bne_iff_ne]; omega
    clear e0 hC hl hm hG HE
    generalize bothEE a b = n at *
    obtain ⟨l, h⟩ := a
    obtain ⟨m, k⟩ := b
    dsimp only [encV] at HB ⊢
    have c0 : ((((w.alloc (.cells #[txt l, txt h] 35)).alloc (.cells #[txt m, txt k] 35)).alloc (.cells #[.string ⟨#[]⟩, .string ⟨#[]⟩] 35)).alloc (.cells #[txt l, txt h, txt m, txt k] 35)).cell? ⟨w.heap.size, 0, none⟩ = some (txt l) := by go_simp
    have c1 : ((((w.alloc (.cells #[txt l, txt h] 35)).alloc (.cells #[txt m, txt k] 35)).alloc (.cells #[.string ⟨#[]⟩, .string ⟨#[]⟩] 35)).alloc (.cells #[txt l, txt h, txt m, txt k] 35)).cell? ⟨w.heap.size, 1, none⟩ = some (txt h) := by go_simp
    have c2 : ((((w.alloc (.cells #[txt l, txt h] 35)).alloc (.cells #[txt m, txt k] 35)).alloc (.cells #[.string ⟨#[]⟩, .string ⟨#[]⟩] 35)).alloc (.cells #[txt l, txt h, txt m, txt k] 35)).cell? ⟨w.heap.size + 1, 0, none⟩ = some (txt m) := by go_simp
    have c3 : ((((w.alloc (.cells #[txt l, txt h] 35)).alloc (.cells #[txt m, txt k] 35)).alloc (.cells #[.string ⟨#[]⟩, .string ⟨#[]⟩] 35)).alloc (.cells #[txt l, txt h, txt m, txt k] 35)).cell? ⟨w.heap.size + 1, 1, none⟩ = some (txt k) := by go_simp
    have X : EncAt (w.heap.size + 1 + 1) ((((w.alloc (.cells #[txt l, txt h] 35)).alloc (.cells #[txt m, txt k] 35)).alloc (.cells #[.string ⟨#[]⟩, .string ⟨#[]⟩] 35)).alloc (.cells #[txt l, txt h, txt m, txt k] 35)) [] [] := ⟨by go_simp, by go_simp, by go_simp, by go_simp⟩
    have hZ : Ext w ((((w.alloc (.cells #[txt l, txt h] 35)).alloc (.cells #[txt m, txt k] 35)).alloc (.cells #[.string ⟨#[]⟩, .string ⟨#[]⟩] 35)).alloc (.cells #[txt l, txt h, txt m, txt k] 35)) := extA
    go_enter Tryz.func48, Tryz.ntmps48
    go_wp2_with (go_at_call 82; (refine (HB.out _ (((w.alloc (.cells #[txt l, txt h] 35)).alloc (.cells #[txt m, txt k] 35)).alloc (.cells #[.string ⟨#[]⟩, .string ⟨#[]⟩] 35)) _ (by simp) rfl extA).mono ?_); rintro e w3 ⟨rfl, hE3⟩; have c0 := hE3.cell c0; have c1 := hE3.cell c1; have c2 := hE3.cell c2; have c3 := hE3.cell c3; have b0 := cell_lt c0; have b1 := cell_lt c2; dsimp only at b0 b1; obtain ⟨d0, d1, g0, g1⟩ := X.ext hE3)
    refine bodyPost_ret (v := .tuple #[.agg #[txt [], txt []], .int .i64 (n : Nat)]) (by rw [results_cell_tmp1 rfl]; go_simp) rfl ?_
    exact ⟨by first | (rw [HR.out]; done) | (rw [HR.out]; rfl), extA⟩
  have HR : Hid (C = endsR (addS a.1 b.1) (addS a.2 b.2)) := by show _ = _; rw [hC]; unfold addE; rw [if_neg (not_not_intro e0)]
  rw [e0] at HB
  clear e0 hl hm hG hC
  generalize endsR (addS a.1 b.1) (addS a.2 b.2) = R at *
  obtain ⟨⟨r1, r2⟩, r3⟩ := R
  obtain ⟨l, h⟩ := a
  obtain ⟨m, k⟩ := b
  dsimp only [encV] at HB HE HR ⊢
  have c0 : ((((w.alloc (.cells #[txt l, txt h] 35)).alloc (.cells #[txt m, txt k] 35)).alloc (.cells #[.string ⟨#[]⟩, .string ⟨#[]⟩] 35)).alloc (.cells #[txt l, txt h, txt m, txt k] 35)).cell? ⟨w.heap.size, 0, none⟩ = some (txt l) := by go_simp
  have c1 : ((((w.alloc (.cells #[txt l, txt h] 35)).alloc (.cells #[txt m, txt k] 35)).alloc (.cells #[.string ⟨#[]⟩, .string ⟨#[]⟩] 35)).alloc (.cells #[txt l, txt h, txt m, txt k] 35)).cell? ⟨w.heap.size, 1, none⟩ = some (txt h) := by go_simp
  have c2 : ((((w.alloc (.cells #[txt l, txt h] 35)).alloc (.cells #[txt m, txt k] 35)).alloc (.cells #[.string ⟨#[]⟩, .string ⟨#[]⟩] 35)).alloc (.cells #[txt l, txt h, txt m, txt k] 35)).cell? ⟨w.heap.size + 1, 0, none⟩ = some (txt m) := by go_simp
  have c3 : ((((w.alloc (.cells #[txt l, txt h] 35)).alloc (.cells #[txt m, txt k] 35)).alloc (.cells #[.string ⟨#[]⟩, .string ⟨#[]⟩] 35)).alloc (.cells #[txt l, txt h, txt m, txt k] 35)).cell? ⟨w.heap.size + 1, 1, none⟩ = some (txt k) := by go_simp
  have X : EncAt (w.heap.size + 1 + 1) ((((w.alloc (.cells #[txt l, txt h] 35)).alloc (.cells #[txt m, txt k] 35)).alloc (.cells #[.string ⟨#[]⟩, .string ⟨#[]⟩] 35)).alloc (.cells #[txt l, txt h, txt m, txt k] 35)) [] [] := ⟨by go_simp, by go_simp, by go_simp, by go_simp⟩
  have hZ : Ext w ((((w.alloc (.cells #[txt l, txt h] 35)).alloc (.cells #[txt m, txt k] 35)).alloc (.cells #[.string ⟨#[]⟩, .string ⟨#[]⟩] 35)).alloc (.cells #[txt l, txt h, txt m, txt k] 35)) := extA
  go_enter Tryz.func48, Tryz.ntmps48
  go_wp2_with (go_at_call 82; (refine (HB.out _ (((w.alloc (.cells #[txt l, txt h] 35)).alloc (.cells #[txt m, txt k] 35)).alloc (.cells #[.string ⟨#[]⟩, .string ⟨#[]⟩] 35)) _ (by simp) rfl extA).mono ?_); rintro e w3 ⟨rfl, hE3⟩; have c0 := hE3.cell c0; have c1 := hE3.cell c1; have c2 := hE3.cell c2; have c3 := hE3.cell c3; have b0 := cell_lt c0; have b1 := cell_lt c2; dsimp only at b0 b1; obtain ⟨d0, d1, g0, g1⟩ := X.ext hE3; have E3 := hZ.trans hE3; have X3 := X.ext hE3)
  go_at_call 83
  refine (HE.out _ E3).mono ?_
  rintro e w4 ⟨rfl, hE4⟩
  obtain ⟨d0, d1, g0, g1⟩ := X3.ext hE4
  go_wp2_with fail
  refine bodyPost_ret (v := .tuple #[.agg #[txt r1, txt r2], .int .i64 (r3 : Nat)]) (by rw [results_cell_tmp1 rfl]; go_simp) rfl ?_
  exact ⟨by first | (rw [HR.out]; done) | (rw [HR.out]; rfl), extA⟩
end Go.Proofs.YtlnonmmaknhppaaGreatDoor
namespace Go.Proofs.YtlnonmmaknhppaaGreatDoor
open Go.RowKit
theorem addS_right {a b : Txt} (ha : fracE a = 0) (hb : fracE b = 0) : addS a b = resQ (fracQ a + fracQ b) := by
  unfold addS ifOk bothE
  rw [if_pos ha, if_pos hb]
set_option maxHeartbeats 8000000 in
set_option maxRecDepth 100000 in
theorem rAdd2_any (a b : Enc) (w : World) (hl : LenE a) (hm : LenE b) : Calls Tryz.prog 89 #[encV a, encV b] w (EncP (addE a b) w) := by
  have HB := Lib.hid (fun W => rBoth2_any a b W hl hm)
  obtain ⟨C, hC⟩ : ∃ C, C = addE a b := ⟨_, rfl⟩
  unfold EncP
  rw [← hC]
  unfold addE at hC
  have hne0 : (((0 : Nat) : Int) != 0) = false := rfl
  obtain ⟨l, h⟩ := a
  obtain ⟨m, k⟩ := b
  obtain ⟨e, he⟩ : ∃ e, e = bothEE (l, h) (m, k) := ⟨_, rfl⟩
  rw [← he] at HB hC
  dsimp only [encV] at HB hC ⊢
  have c0 : (((w.alloc (.cells #[txt l, txt h] 35)).alloc (.cells #[txt m, txt k] 35)).alloc (.cells #[.string ⟨#[]⟩, .string ⟨#[]⟩] 35)).cell? ⟨w.heap.size, 0, none⟩ = some (txt l) := by go_simp
  have c1 : (((w.alloc (.cells #[txt l, txt h] 35)).alloc (.cells #[txt m, txt k] 35)).alloc (.cells #[.string ⟨#[]⟩, .string ⟨#[]⟩] 35)).cell? ⟨w.heap.size, 1, none⟩ = some (txt h) := by go_simp
  have c2 : (((w.alloc (.cells #[txt l, txt h] 35)).alloc (.cells #[txt m, txt k] 35)).alloc (.cells #[.string ⟨#[]⟩, .string ⟨#[]⟩] 35)).cell? ⟨w.heap.size + 1, 0, none⟩ = some (txt m) := by go_simp
  have c3 : (((w.alloc (.cells #[txt l, txt h] 35)).alloc (.cells #[txt m, txt k] 35)).alloc (.cells #[.string ⟨#[]⟩, .string ⟨#[]⟩] 35)).cell? ⟨w.heap.size + 1, 1, none⟩ = some (txt k) := by go_simp
  have X : EncAt (w.heap.size + 1 + 1) (((w.alloc (.cells #[txt l, txt h] 35)).alloc (.cells #[txt m, txt k] 35)).alloc (.cells #[.string ⟨#[]⟩, .string ⟨#[]⟩] 35)) [] [] := ⟨by go_simp, by go_simp, by go_simp, by go_simp⟩
  have E : Ext w (((w.alloc (.cells #[txt l, txt h] 35)).alloc (.cells #[txt m, txt k] 35)).alloc (.cells #[.string ⟨#[]⟩, .string ⟨#[]⟩] 35)) := extA
  go_enter Tryz.func89, Tryz.ntmps89
  go_wp2_with fail
  generalize (((w.alloc (.cells #[txt l, txt h] 35)).alloc (.cells #[txt m, txt k] 35)).alloc (.cells #[.string ⟨#[]⟩, .string ⟨#[]⟩] 35)) = w0 at c0 c1 c2 c3 X E ⊢
  refine (HB.out w0).mono ?_
  clear HB
  rintro e' w1 ⟨rfl, hE⟩
  replace c0 := hE.cell c0
  replace c1 := hE.cell c1
  replace c2 := hE.cell c2
  replace c3 := hE.cell c3
  replace X := X.ext hE
  replace E := E.trans hE
  clear hE
  by_cases e0 : e = 0
  rotate_left
  · rw [if_pos e0] at hC
    have HR : Hid (C = (([], []), e)) := hC
    have hne : (((e : Nat) : Int) != 0) = true := by rw [bne_iff_ne]; omega
    clear hC c0 c1 c2 c3 he e0 hl hm
    obtain ⟨x0, x1, f0, f1⟩ := X
    go_wp2_with fail
    refine bodyPost_ret (v := .tuple #[.agg #[txt [], txt []], .int .i64 (e : Nat)]) (by rw [results_cell_tmp1 rfl]; go_simp) rfl ?_
    exact ⟨by first | (rw [HR.out]; done) | (rw [HR.out]; rfl), extA⟩
  subst e0
  rw [if_neg (by decide)] at hC
  obtain ⟨ha, hb⟩ := bothEE_two he.symm
  clear he
  obtain ⟨a1, a2, _⟩ := enc_right ha
  obtain ⟨b1, b2, _⟩ := enc_right hb
  have H1 := Lib.hid (fun W => rAdd_any l m W hl.1 hm.1)
  have H2 := Lib.hid (fun W => rAdd_any h k W hl.2 hm.2)
  have q1 := addS_right a1 b1
  have q2 := addS_right a2 b2
  have qle := add_le (enc_le ha) (enc_le hb)
  dsimp only at q1 q2 qle
  rw [q1] at H1 hC
  rw [q2] at H2 hC
  rw [← sortR_le qle, ← four_sort] at hC
  have HRT := Lib.hid (four_right (p := fracQ l + fracQ m) (q := fracQ h + fracQ k))
  generalize resQ (fracQ l + fracQ m) = r at *
  generalize resQ (fracQ h + fracQ k) = s at *
  clear q1 q2 qle a1 a2 b1 b2 ha hb hl hm
  unfold ResP at H1 H2
  obtain ⟨r, re⟩ := r
  obtain ⟨s, se⟩ := s
  dsimp only at H1 H2 HRT hC
  generalize hEE : E2 (r, re) (s, se) = EE at hC HRT
  have HEE := Lib.hid hEE
  clear hEE
  have HR := Lib.hid hC
  clear hC
  have z0 := cell_lt c0
  have z1 := cell_lt c2
  have z2 := cell_lt X.c0
  dsimp only at z0 z1 z2
  obtain ⟨g, hg⟩ : ∃ g, g = w1.heap.size := ⟨_, rfl⟩
  have hg0 : w.heap.size < g := by omega
  have hg1 : w.heap.size + 1 < g := by omega
  have hg2 : w.heap.size + 1 + 1 < g := by omega
  have FO := four_new w1 g hg
  have EA : Ext w1 (w1.alloc (.cells #[.slice none 0 0, .int .i64 0] 175)) := extA
  go_wp2_with fail
  rw [← hg]
  replace c0 := EA.cell c0
  replace c1 := EA.cell c1
  replace c2 := EA.cell c2
  replace c3 := EA.cell c3
  replace X := X.ext EA
  replace E := E.trans EA
  generalize (w1.alloc (.cells #[.slice none 0 0, .int .i64 0] 175)) = w2 at FO c0 c1 c2 c3 X E ⊢
  clear hg
  have hg := Nat.le_of_lt hg0
  clear EA z0 z1 z2
  refine (H1.out _).mono ?_
  clear H1
  rintro e w3 ⟨rfl, hE⟩
  replace c0 := hE.cell c0
  replace c1 := hE.cell c1
  replace c2 := hE.cell c2
  replace c3 := hE.cell c3
  replace X := X.ext hE
  replace E := E.trans hE
  replace FO := FO.ext hE
  clear hE
  go_wp2_with fail
  have K := rWith_any g [] 0 re r w3 FO (Nat.zero_le _)
  refine K.mono ?_
  rintro e w4 ⟨rfl, FO4, hB⟩
  clear FO
  replace c0 := cellB hB (p := ⟨w.heap.size, 0, none⟩) hg0 c0
  replace c1 := cellB hB (p := ⟨w.heap.size, 1, none⟩) hg0 c1
  replace c2 := cellB hB (p := ⟨w.heap.size + 1, 0, none⟩) hg1 c2
  replace c3 := cellB hB (p := ⟨w.heap.size + 1, 1, none⟩) hg1 c3
  replace X := X.below hB hg2
  replace E := E.trans' hB hg
  clear hB
  go_wp2_with fail
  refine (H2.out _).mono ?_
  clear H2
  rintro e w5 ⟨rfl, hE⟩
  replace X := X.ext hE
  replace E := E.trans hE
  replace FO4 := FO4.ext hE
  clear hE c0 c1 c2 c3
  go_wp2_with fail
  have K := rWith_any g ([] ++ [r]) _ se s w5 FO4 (Nat.le_of_ble_eq_true rfl)
  refine K.mono ?_
  clear FO4
  rintro e w6 ⟨rfl, FO6, hB⟩
  replace X := X.below hB hg2
  replace E := E.trans' hB hg
  clear hB
  have FO : Four g w6 [r, s] EE := by rw [← HEE.out]; exact FO6
  clear FO6
  go_wp2_with fail
  refine (rEnds_any g [r, s] EE w6 FO (Nat.zero_lt_succ _) (by simp) HRT.out).mono ?_
  unfold EncP
  rw [← HR.out]
  clear HR HRT FO HEE
  obtain ⟨⟨y0, y1⟩, y2⟩ := C
  rintro e w7 ⟨rfl, hE⟩
  replace X := X.ext hE
  replace E := E.trans hE
  obtain ⟨x0, x1, f0, f1⟩ := X
  go_wp2_with fail
  refine bodyPost_ret (v := .tuple #[.agg #[txt y0, txt y1], .int .i64 (y2 : Nat)]) (by rw [results_cell_tmp1 rfl]; go_simp) rfl ?_
  exact ⟨rfl, extA⟩
end Go.Proofs.YtlnonmmaknhppaaGreatDoor
namespace Go.Proofs.YtlnonmmaknhppaaGreatDoor
open Go.ChangeShapes Go.WideShapes Go.ChangeAt Go.RowKit
theorem own : ownKnob Tryz.prog.godebug = none := by kernel_rfl
theorem gTab : Tryz.prog.globalNamed "internal/strconv.uint64pow10" = some 0 := by kernel_rfl
theorem gTabT : (Tryz.prog.globals[0]?).map (·.type) = some 269 := by kernel_rfl
theorem cellsTab : Tryz.prog.cellsOf 269 = 20 := by kernel_rfl
theorem cellsU64 : Tryz.prog.cellsOf 159 = 1 := by kernel_rfl
theorem gRng : Tryz.prog.globalNamed "strconv.ErrRange" = some 5 := by kernel_rfl
theorem gRngT : (Tryz.prog.globals[5]?).map (·.type) = some 229 := by kernel_rfl
theorem gSyn : Tryz.prog.globalNamed "strconv.ErrSyntax" = some 4 := by kernel_rfl
theorem gSynT : (Tryz.prog.globals[4]?).map (·.type) = some 229 := by kernel_rfl
theorem starE : "*" ++ "errors.errorString" = "*errors.errorString" := by decide
theorem rowE (u : TypeId) (h : Tryz.prog.typeName? 3 u = some "*errors.errorString") : u = 300 :=
  typeName_ptr_named (nm := "errors.errorString") (by rw [starE]; kernel_rfl) (by kernel_rfl) (by decide) u (by rw [starE]; exact h)
theorem cellsErr : Tryz.prog.cellsOf 302 = 1 := by kernel_rfl
theorem cellsStr : Tryz.prog.cellsOf 9 = 1 := by kernel_rfl
theorem glob_of {W : World} (hs : W.ShapedOpen Tryz.prog) (hL : laidMetH Tryz.prog Rows.airMeasuresRow.laid W) : Glob W := by
  have hP : laidMet Tryz.prog Rows.airMeasuresRow.laid W := by
    rw [← MakeChecks.laidMetH_plain _ _ _ (by kernel_rfl)]; exact hL
  have hP2 := hP.tail.tail
  have hP4 := hP2.tail.tail
  have hP5 := hP4.tail
  obtain ⟨a0, _, h0, _⟩ := laid_sentinel hP4 gRng gRngT Tryz.underlying229 rowE Tryz.underlying300 Tryz.underlying302 rfl rfl Tryz.underlying9 cellsErr cellsStr
  obtain ⟨a1, _, h1, _⟩ := laid_sentinel hP5 gSyn gSynT Tryz.underlying229 rowE Tryz.underlying300 Tryz.underlying302 rfl rfl Tryz.underlying9 cellsErr cellsStr
  exact ⟨cell_of_shapedOpen_int (zero := #[.int .i64 0]) (t := 3) hs (of_decide_eq_true (by kernel_rfl)) (by kernel_rfl) rfl (by kernel_rfl) (by kernel_rfl) Tryz.underlying3,
    Lib.tabIs_of_head gTab gTabT Tryz.underlying269 Tryz.underlying159 cellsU64 cellsTab hP2, ⟨_, _, h1⟩, ⟨_, _, h0⟩⟩
def flatD : Nat → DataW Unit → List Value
  | _ + 1, .lit (.int k z) => [.int k z]
  | n + 1, .agg ds => ds.flatMap (flatD n)
  | _, _ => []
def putC (cs : List Value) : Obj → Obj
  | .cells _ t frozen => .cells ⟨cs⟩ t frozen
  | o => o
noncomputable def lowB : Nat := (World.holding Tryz.prog default ⟨#[], #[], []⟩).heap.size
def rngS : ByteArray := ⟨#[118, 97, 108, 117, 101, 32, 111, 117, 116, 32, 111, 102, 32, 114, 97, 110, 103, 101]⟩
def synS : ByteArray := ⟨#[105, 110, 118, 97, 108, 105, 100, 32, 115, 121, 110, 116, 97, 120]⟩
noncomputable def laidWorld (os : Os) : World :=
  let w0 := World.holding Tryz.prog os ⟨#[.cells #[.string rngS] 302, .cells #[.string synS] 302], #[], []⟩
  { w0 with heap := (((((((w0.heap.modify 6 (putC (flatD 3 Rows.laid_math_bits_deBruijn32tab))).modify 7 (putC (flatD 3 Rows.laid_math_bits_deBruijn64tab))).modify
      0 (putC (flatD 3 Rows.laid_internal_strconv_uint64pow10))).modify 3 (putC (flatD 3 Rows.laid_unicode_utf8_acceptRanges))).modify
      5 (putC [.iface 300 (.pointer (some ⟨lowB, 0, none⟩))])).modify 4 (putC [.iface 300 (.pointer (some ⟨lowB + 1, 0, none⟩))])).modify
      2 (putC (flatD 3 Rows.laid_unicode_utf8_first))) }
theorem laid_met (os : Os) (args : Array Value) : laidMet Tryz.prog Rows.airMeasuresRow.laid ((laidWorld os).forCall (fun _ _ => 0) ⟨#[], args, []⟩).memory :=
  laidMet_of_run' 8 (by kernel_rfl) (by kernel_rfl)
end Go.Proofs.YtlnonmmaknhppaaGreatDoor
namespace Go.Proofs.YtlnonmmaknhppaaGreatDoor
open Go.RowKit Go.ChangeShapes Go.WideShapes Go.Joins Go.Deep
theorem laidOut : laidOutB Tryz.prog = true := by kernel_rfl
section
variable {H : Type} {enc : TypeId × Value → H} {w : World} {base : Nat} {spare : Nat → Bool} {held : Bool}
theorem i64_bd {n : Int} (h : (Lit.int .i64 n).wf = true) : -9223372036854775808 ≤ n ∧ n ≤ 9223372036854775807 := by
  simp only [Lit.wf, Bool.and_eq_true, decide_eq_true_eq] at h
  exact h
end
end Go.Proofs.YtlnonmmaknhppaaGreatDoor
namespace Go.Proofs.YtlnonmmaknhppaaGreatDoor
open Go.RowKit Go.ChangeShapes Go.WideShapes Go.ChangeAt
theorem band {a b : Bool} (h : a = true) (k : b = true) : (a && b) = true := by rw [h, k]; rfl
theorem factLaid : laidOutB Tryz.pinned.checked.prog = true := by kernel_rfl
theorem factMaps : mapsRowed Tryz.pinned.checked.prog = true := by kernel_rfl
theorem factHeard : Tryz.pinned.checked.prog.stopsHeard = true := by kernel_rfl
theorem factEnter : Tryz.pinned.checked.prog.mayEnter = true := by kernel_rfl
theorem factLifts : (Rows.airMeasuresRow.lifted == Tryz.pinned.checked.prog.liftsFinal) = true := by kernel_rfl
theorem factMake : (Tryz.pinned.checked.prog.make == some Rows.airMeasuresRow.make) = true := by kernel_rfl
theorem factKeys : (Rows.airMeasuresRow.plainKeys == Tryz.pinned.checked.prog.plainKeys) = true := by kernel_rfl
end Go.Proofs.YtlnonmmaknhppaaGreatDoor
namespace Go.Proofs.YtlnonmmaknhppaaGreatDoor
open Go.RowKit
def cyl0 : Cyl := ⟨0, 0, 0⟩
def CellsC (w : World) (a : Option Addr) (l : List Cyl) : Prop :=
  ∀ i, i < l.length → ∃ b off, a = some ⟨b, off, none⟩ ∧ w.cell? ⟨b, off + i * 3, none⟩ = some (.int .i64 (l.getD i cyl0).bore) ∧ w.cell? ⟨b, off + i * 3 + 1, none⟩ = some (.int .i64 (l.getD i cyl0).rod) ∧ w.cell? ⟨b, off + i * 3 + 2, none⟩ = some (.int .i64 (l.getD i cyl0).stroke)
theorem CellsC.ext {w w' : World} {a : Option Addr} {l : List Cyl} (h : CellsC w a l) (he : Ext w w') : CellsC w' a l := fun i hi => by
  obtain ⟨b, off, h1, h2, h3, h4⟩ := h i hi
  exact ⟨b, off, h1, he.cell h2, he.cell h3, he.cell h4⟩
def flatC : List Cyl → List Value
  | [] => []
  | c :: l => .int .i64 c.bore :: .int .i64 c.rod :: .int .i64 c.stroke :: flatC l
theorem flatC_length (l : List Cyl) : (flatC l).length = l.length * 3 := by
  induction l with
  | nil => rfl
  | cons c l ih => simp only [flatC, List.length_cons, ih]; omega
theorem flatC_append (l m : List Cyl) : flatC (l ++ m) = flatC l ++ flatC m := by
  induction l with
  | nil => rfl
  | cons c l ih => simp only [flatC, List.cons_append, ih]
theorem flatC_get (l : List Cyl) : ∀ i, i < l.length → (flatC l)[i * 3]? = some (.int .i64 (l.getD i cyl0).bore) ∧ (flatC l)[i * 3 + 1]? = some (.int .i64 (l.getD i cyl0).rod) ∧ (flatC l)[i * 3 + 2]? = some (.int .i64 (l.getD i cyl0).stroke) := by
  induction l with
  | nil => intro i h; simp at h
  | cons c l ih =>
    intro i h
    cases i with
    | zero => exact ⟨rfl, rfl, rfl⟩
    | succ i =>
      have := ih i (by simpa using h)
      rw [show (i + 1) * 3 = i * 3 + 1 + 1 + 1 by omega]
      simpa [flatC] using this
def OwnsC (w : World) (v : Value) (l : List Cyl) : Prop := w.ownsRow 0 49 3 v l.length (flatC l)
theorem OwnsC.nil (w : World) : OwnsC w (.slice none 0 0) [] := World.ownsRow_nil w 0 _ _
theorem OwnsC.ext {A B : World} {v : Value} {l : List Cyl} (h : OwnsC A v l) (k : Ext A B) : OwnsC B v l := rowExt h k
theorem OwnsC.reads {A : World} {v : Value} {l : List Cyl} (h : OwnsC A v l) : ∃ a cap, v = .slice a l.length cap ∧ CellsC A a l ∧ l.length ≤ maxLen := by
  obtain ⟨a, cap, hv, hm, hr⟩ := rowReads h
  refine ⟨a, cap, hv, fun i hi => ?_, hm⟩
  obtain ⟨b, hb, _, h1, _⟩ := hr _ _ (flatC_get l i hi).1
  obtain ⟨b2, hb2, _, h2, _⟩ := hr _ _ (flatC_get l i hi).2.1
  obtain ⟨b3, hb3, _, h3, _⟩ := hr _ _ (flatC_get l i hi).2.2
  rw [hb] at hb2 hb3
  cases hb2
  cases hb3
  exact ⟨b, 0, hb, by rw [Nat.zero_add]; exact h1, by rw [Nat.zero_add]; exact h2, by rw [Nat.zero_add]; exact h3⟩
theorem infoCyl : (Tryz.prog.info? 49).map (fun i => (i.zero, i.size, i.bytes)) = some (some (.agg #[.int .i64 0, .int .i64 0, .int .i64 0]), 3, 24) := by kernel_rfl
theorem ownsC_app {w : World} {v : Value} {l : List Cyl} {c : Cyl} (h : w.ownsRow 0 49 3 v (l.length + 1) (flatC l ++ flatC [c])) : OwnsC w v (l ++ [c]) := by
  unfold OwnsC
  rw [List.length_append, flatC_append]; exact h
theorem take_snoc {α : Type} {l : List α} {k : Nat} (d : α) (h : k < l.length) : l.take (k + 1) = l.take k ++ [l.getD k d] := by
  rw [List.take_succ_eq_append_getElem h, List.getD_eq_getElem?_getD, List.getElem?_eq_getElem h]; rfl
set_option maxHeartbeats 8000000 in
set_option maxRecDepth 100000 in
theorem all_any (l : List Cyl) (a : Option Addr) (cap : Nat) (w : World) (hl : l.length ≤ 100) (hc : CellsC w a l) :
    Calls Tryz.prog 42 #[.slice a l.length cap] w fun e w' => ∃ v, e = .returned v ∧ OwnsC w' v l ∧ Ext w w' := by
  have HC := Lib.hid hc
  have HS := Lib.hid (fun (c : Cyl) W => sent_any c W)
  clear hc
  obtain ⟨i0, hi, hi0, hi1, hi2⟩ := info_parts infoCyl
  go_enter Tryz.func42, Tryz.ntmps42
  go_wp2_with fail
  go_loopw [8, 3] (fun i v wr => ∃ k : Nat, k ≤ l.length ∧ i = .int .i64 k ∧ (∃ vv, v = vv ∧ Hid (OwnsC wr vv (l.take k) ∧ ∀ b, vv.ownBlock = some b → w.heap.size ≤ b)) ∧ Ext w wr) (fun i _ _ => l.length - (intOf i).toNat)
  case atStart => exact ⟨0, Nat.zero_le _, rfl, ⟨_, rfl, OwnsC.nil _, fun b hb => by cases hb⟩, Ext.refl _⟩
  case round =>
    obtain ⟨k, hk, rfl, ⟨vv, hvv, hO⟩, he⟩ := hrel
    obtain rfl := hvv.symm
    by_cases hlt : k < l.length
    · obtain ⟨b, off, ha, p0, p1, p2⟩ := HC.out.ext he k hlt
      subst ha
      have HT := Lib.hid (take_snoc cyl0 hlt)
      generalize l.getD k cyl0 = c at p0 p1 p2 HT
      have hln : (l.take k).length = k := by rw [List.length_take]; omega
      have O2 := Lib.hid hO.out.1
      have OB := Lib.hid hO.out.2
      have hsz := he.size
      have HSc := Lib.hid (HS.out c)
      obtain ⟨x, y, z⟩ := c
      dsimp only [cylV] at p0 p1 p2 HSc
      generalize l.take k = P at O2 HT hln
      clear hO
      have z0 := cell_lt p0
      dsimp only at z0
      have EB : Ext wr (wr.alloc (.cells #[.int .i64 x, .int .i64 y, .int .i64 z] 46)) := extA
      go_wp2_with fail
      refine (HSc.out _).mono ?_
      rintro e w5 ⟨rfl, hE⟩
      have E5 := EB.trans hE
      have ES : Ext w5 (w5.alloc (.cells #[.int .i64 x, .int .i64 y, .int .i64 z] 49)) := extA
      have hsz5 := E5.size
      have hO5 : Hid (OwnsC (w5.alloc (.cells #[.int .i64 x, .int .i64 y, .int .i64 z] 49)) vv P) := O2.out.ext (E5.trans ES)
      have hfl : Hid (∀ j u, (flatC [⟨x, y, z⟩])[j]? = some u → (w5.alloc (.cells #[.int .i64 x, .int .i64 y, .int .i64 z] 49)).cell? ((⟨w5.heap.size, 0, none⟩ : Addr).add j) = some u) := fun j u hu => by
        have hj := (List.getElem?_eq_some_iff.1 hu).1
        rw [flatC_length] at hj
        simp only [List.length_cons, List.length_nil] at hj
        rcases (show j = 0 ∨ j = 1 ∨ j = 2 by omega) with rfl | rfl | rfl <;> (cases hu; rw [Addr.add_lit]; go_simp)
      clear EB hE
      go_wp2_with (at_builtin; refine wpList_append1 _ rfl _ _ 74 rfl 49 i0 (.agg #[.int .i64 0, .int .i64 0, .int .i64 0]) 3 24 Tryz.underlying74 hi hi0 hi1 hi2 rfl (by decide) vv P.length (flatC P) rfl hO5.out ⟨w5.heap.size, 0, none⟩ 1 1 (by decide) (flatC [⟨x, y, z⟩]) rfl rfl hfl.out (by intro u hu; simp only [flatC, List.mem_cons, List.not_mem_nil, or_false] at hu; rcases hu with rfl | rfl | rfl <;> rfl) ?c2 ?c3 ?c4)
      case c2 => unfold maxLen; omega
      case c3 => omega
      case c4 =>
        intro v' w6 hown hend
        have O6 : Hid (OwnsC w6 v' (l.take (k + 1))) := by show OwnsC _ _ _; rw [HT.out]; exact ownsC_app (by rw [hln]; exact hown)
        have B6 : Ext w w6 := (he.trans (E5.trans ES)).trans' (hend.below (n := w.heap.size) (by simp; omega) OB.out) (Nat.le_refl _)
        have OB6 : Hid (∀ b, v'.ownBlock = some b → w.heap.size ≤ b) := hend.ge (n := w.heap.size) (by simp; omega) OB.out
        clear hown hend O2 OB HT hO5 hfl
        go_wp2
        refine ⟨⟨k + 1, by omega, by go_num, ⟨v', rfl, O6.out, OB6.out⟩, B6⟩, by simp [intOf]; omega⟩
    · have hke : k = l.length := by omega
      subst hke
      have hO1 := hO.out.1
      rw [List.take_length] at hO1
      have HO1 := Lib.hid hO1
      clear hO hO1
      go_wp2
      go_ret
      exact ⟨_, rfl, HO1.out, he⟩
end Go.Proofs.YtlnonmmaknhppaaGreatDoor
namespace Go.Proofs.YtlnonmmaknhppaaGreatDoor
abbrev Stk := Int × Bool
abbrev Stp := List Stk × Int
abbrev Sq := Int × List Stp
def ckStrokes : Int → List Stk → Int
  | _, [] => 0
  | last, y :: l => if y.1 < 0 ∨ 6 ≤ y.1 then 2 else if y.1 = last then 7 else if y.1 < last then 9 else ckStrokes y.1 l
def ckStep (x : Stp) : Int :=
  if x.1.length = 0 then 13 else if 6 < x.1.length then 5 else if ckStrokes (-1) x.1 ≠ 0 then ckStrokes (-1) x.1 else if x.2 < 0 ∨ 1000000 < x.2 then 2 else 0
def beh (e : Int → Bool) (l : List Stk) : Int → Bool := l.foldl (fun e y i => if i = y.1 then y.2 else e i) e
def anyHigh (n : Int) (l : List Stk) : Bool := l.any fun y => decide (n ≤ y.1)
def anySame (e : Int → Bool) (l : List Stk) : Bool := l.any fun y => e y.1 == y.2
def ckFit (n : Int) (x : Stp) (e : Int → Bool) : Int :=
  if ckStep x ≠ 0 then ckStep x else if anyHigh n x.1 then 6 else if anySame e x.1 then 14 else 0
def ckWalk (n : Int) : (Int → Bool) → List Stp → Int
  | _, [] => 0
  | e, x :: l => if ckFit n x e ≠ 0 then ckFit n x e else ckWalk n (beh e x.1) l
def none6 : Int → Bool := fun _ => false
def behAll (e : Int → Bool) (l : List Stp) : Int → Bool := l.foldl (fun e x => beh e x.1) e
def movesIn (a : Int) (x : Stp) : Bool := x.1.any fun y => y.1 == a
def movedIn (a : Int) (l : List Stp) : Bool := l.any (movesIn a)
def ints (n : Int) : List Int := (List.range n.toNat).map Int.ofNat
def ckSeq (s : Sq) : Int :=
  if s.1 < 1 ∨ 6 < s.1 then 2 else if s.2.length = 0 then 13 else if 64 < s.2.length then 5
  else if ckWalk s.1 none6 s.2 ≠ 0 then ckWalk s.1 none6 s.2
  else if (ints s.1).any (behAll none6 s.2) then 9
  else if (ints s.1).any (fun a => !movedIn a s.2) then 13 else 0
def apart (a b : Stp) : Bool := a.1.all fun y => !movesIn y.1 b
end Go.Proofs.YtlnonmmaknhppaaGreatDoor
namespace Go.Proofs.YtlnonmmaknhppaaGreatDoor
open Go.RowKit
def stk0 : Stk := (0, false)
def stp0 : Stp := ([], 0)
def CellsK (w : World) (a : Option Addr) (l : List Stk) : Prop :=
  ∀ i, i < l.length → ∃ b off, a = some ⟨b, off, none⟩ ∧ w.cell? ⟨b, off + i * 2, none⟩ = some (.int .i64 (l.getD i stk0).1) ∧ w.cell? ⟨b, off + i * 2 + 1, none⟩ = some (.bool (l.getD i stk0).2)
theorem CellsK.ext {w w' : World} {a : Option Addr} {l : List Stk} (h : CellsK w a l) (he : Ext w w') : CellsK w' a l := fun i hi => by
  obtain ⟨b, off, h1, h2, h3⟩ := h i hi
  exact ⟨b, off, h1, he.cell h2, he.cell h3⟩
theorem CellsK.nil (w : World) (a : Option Addr) : CellsK w a [] := fun i hi => by simp at hi
def SliceK (w : World) (v : Value) (l : List Stk) : Prop := ∃ a cap, v = .slice a l.length cap ∧ CellsK w a l ∧ l.length ≤ maxLen
theorem SliceK.ext {w w' : World} {v : Value} {l : List Stk} (h : SliceK w v l) (he : Ext w w') : SliceK w' v l := by
  obtain ⟨a, cap, h1, h2, h3⟩ := h
  exact ⟨a, cap, h1, h2.ext he, h3⟩
def CellsP (w : World) (a : Option Addr) (l : List Stp) : Prop :=
  ∀ i, i < l.length → ∃ b off v, a = some ⟨b, off, none⟩ ∧ w.cell? ⟨b, off + i * 2, none⟩ = some v ∧ SliceK w v (l.getD i stp0).1 ∧ w.cell? ⟨b, off + i * 2 + 1, none⟩ = some (.int .i64 (l.getD i stp0).2)
theorem CellsP.ext {w w' : World} {a : Option Addr} {l : List Stp} (h : CellsP w a l) (he : Ext w w') : CellsP w' a l := fun i hi => by
  obtain ⟨b, off, v, h1, h2, h3, h4⟩ := h i hi
  exact ⟨b, off, v, h1, he.cell h2, h3.ext he, he.cell h4⟩
theorem Room.len {a : Option Addr} {n cap : Nat} (h : Room a n cap) : n ≤ maxLen := Nat.le_trans h.1 h.2.1
instance roomLen (a : Option Addr) (n cap : Nat) : CoeOut (Room a n cap) (n ≤ maxLen) := ⟨Room.len⟩
def SliceP (w : World) (v : Value) (l : List Stp) : Prop := ∃ a cap, v = .slice a l.length cap ∧ CellsP w a l ∧ Room a l.length cap
theorem SliceP.ext {w w' : World} {v : Value} {l : List Stp} (h : SliceP w v l) (he : Ext w w') : SliceP w' v l := by
  obtain ⟨a, cap, h1, h2, h3⟩ := h
  exact ⟨a, cap, h1, h2.ext he, h3⟩
def SeqV (w : World) (v : Value) (s : Sq) : Prop := ∃ u, v = .agg #[.int .i64 s.1, u] ∧ SliceP w u s.2
theorem SeqV.ext {w w' : World} {v : Value} {s : Sq} (h : SeqV w v s) (he : Ext w w') : SeqV w' v s := by
  obtain ⟨u, h1, h2⟩ := h
  exact ⟨u, h1, h2.ext he⟩
end Go.Proofs.YtlnonmmaknhppaaGreatDoor
namespace Go.Proofs.YtlnonmmaknhppaaGreatDoor
open Go.RowKit
theorem infoStk : (Tryz.prog.info? 84).map (fun i => (i.zero, i.size, i.bytes)) = some (some (.agg #[.int .i64 0, .bool false]), 2, 16) := by kernel_rfl
def pairK (l : List Stk) : List (Value × Value) := l.map fun y => (.int .i64 y.1, .bool y.2)
def flatK (l : List Stk) : List Value := flat2 (pairK l)
theorem flatK_length (l : List Stk) : (flatK l).length = l.length * 2 := by unfold flatK; rw [flat2_length]; simp [pairK]
theorem flatK_append (l m : List Stk) : flatK (l ++ m) = flatK l ++ flatK m := by unfold flatK pairK; rw [List.map_append, flat2_append]
theorem flatK_get (l : List Stk) (i : Nat) (h : i < l.length) : (flatK l)[i * 2]? = some (.int .i64 (l.getD i stk0).1) ∧ (flatK l)[i * 2 + 1]? = some (.bool (l.getD i stk0).2) := by
  have := flat2_get (pairK l) i (by simpa [pairK] using h)
  unfold flatK
  rw [this.1, this.2]
  simp [pairK, List.getD, h]
theorem flat2_two {l : List (Value × Value)} {j : Nat} {u : Value} (h : (flat2 l)[j]? = some u) : ∃ i, ∃ hi : i < l.length, (j = i * 2 ∧ u = l[i].1) ∨ (j = i * 2 + 1 ∧ u = l[i].2) := by
  have hj := (List.getElem?_eq_some_iff.1 h).1
  rw [flat2_length] at hj
  have hi : j / 2 < l.length := by omega
  have hg := flat2_get l (j / 2) hi
  refine ⟨j / 2, hi, ?_⟩
  rcases Nat.mod_two_eq_zero_or_one j with h0 | h0
  · have e : j / 2 * 2 = j := by omega
    rw [e] at hg
    exact .inl ⟨e.symm, by rw [hg.1] at h; exact (Option.some.inj h).symm⟩
  · have e : j / 2 * 2 + 1 = j := by omega
    rw [e] at hg
    exact .inr ⟨e.symm, by rw [hg.2] at h; exact (Option.some.inj h).symm⟩
theorem flatK_one (l : List Stk) : ∀ u ∈ flatK l, u.oneCell' = true := by
  intro u hu
  obtain ⟨j, hj, e⟩ := List.mem_iff_getElem.1 hu
  obtain ⟨i, hi, ⟨_, h⟩ | ⟨_, h⟩⟩ := flat2_two (l := pairK l) (j := j) (u := u) (by rw [← e]; exact List.getElem?_eq_getElem hj)
  · rw [h]; simp only [pairK, List.getElem_map]; rfl
  · rw [h]; simp only [pairK, List.getElem_map]; rfl
theorem CellsK.flat {w : World} {b off : Nat} {l : List Stk} (h : CellsK w (some ⟨b, off, none⟩) l) (j : Nat) (u : Value) (hu : (flatK l)[j]? = some u) : w.cell? ((⟨b, off, none⟩ : Addr).add j) = some u := by
  obtain ⟨i, hi, hh⟩ := flat2_two hu
  have hi' : i < l.length := by simpa [pairK] using hi
  obtain ⟨b', off', hb, h1, h2⟩ := h i hi'
  cases hb
  rw [Addr.add_lit]
  rcases hh with ⟨rfl, rfl⟩ | ⟨rfl, rfl⟩
  · rw [h1]; simp [pairK, List.getD, hi']
  · rw [← Nat.add_assoc, h2]; simp [pairK, List.getD, hi']
def OwnsK (w : World) (v : Value) (l : List Stk) : Prop := w.ownsRow 0 84 2 v l.length (flatK l)
theorem OwnsK.nil (w : World) : OwnsK w (.slice none 0 0) [] := World.ownsRow_nil w 0 _ _
theorem OwnsK.ext {A B : World} {v : Value} {l : List Stk} (h : OwnsK A v l) (k : Ext A B) : OwnsK B v l := rowExt h k
theorem OwnsK.reads {A : World} {v : Value} {l : List Stk} (h : OwnsK A v l) : ∃ a cap, v = .slice a l.length cap ∧ CellsK A a l ∧ l.length ≤ maxLen ∧ (∀ b off, a = some ⟨b, off, none⟩ → l ≠ [] → off = 0 ∧ v.ownBlock = some b ∧ ∀ i, i < l.length → A.frozen? ⟨b, i * 2, none⟩ = false ∧ A.frozen? ⟨b, i * 2 + 1, none⟩ = false) := by
  obtain ⟨a, cap, hv, hm, hr⟩ := rowReads h
  refine ⟨a, cap, hv, fun i hi => ?_, hm, fun b off hb hne => ?_⟩
  · obtain ⟨b, hb, _, h1, _⟩ := hr _ _ (flatK_get l i hi).1
    obtain ⟨b', hb', _, h2, _⟩ := hr _ _ (flatK_get l i hi).2
    rw [hb] at hb'
    cases hb'
    exact ⟨b, 0, hb, by rw [Nat.zero_add]; exact h1, by rw [Nat.zero_add]; exact h2⟩
  · have h0 : 0 < l.length := List.length_pos_iff.2 hne
    obtain ⟨b', hb', h3, _, _⟩ := hr _ _ (flatK_get l 0 h0).1
    rw [hb] at hb'
    cases hb'
    refine ⟨rfl, h3, fun i hi => ?_⟩
    obtain ⟨b1, e1, _, _, f1⟩ := hr _ _ (flatK_get l i hi).1
    obtain ⟨b2, e2, _, _, f2⟩ := hr _ _ (flatK_get l i hi).2
    rw [hb] at e1 e2
    cases e1
    cases e2
    exact ⟨f1, f2⟩
theorem OwnsK.slice {A : World} {v : Value} {l : List Stk} (h : OwnsK A v l) : SliceK A v l := by
  obtain ⟨a, cap, h1, h2, h3, _⟩ := h.reads
  exact ⟨a, cap, h1, h2, h3⟩
end Go.Proofs.YtlnonmmaknhppaaGreatDoor
namespace Go.Proofs.YtlnonmmaknhppaaGreatDoor
open Go.RowKit
def knownB (a : Int) : Bool := decide (0 ≤ a) && decide (a < 6)
theorem known_any (a : Int) (w : World) : Calls Tryz.prog 232 #[.int .i64 a] w fun e w' => e = .returned (.bool (knownB a)) ∧ w = w' := by
  unfold knownB
  go_enter Tryz.func232, Tryz.ntmps232
  go_wp2
  all_goals go_ret
  all_goals exact ⟨ret_bool (by first | rfl | (simp; done) | (simp; omega)), rfl⟩
theorem Actuator_any (a : Int) (w : World) : Calls Tryz.prog 173 #[.int .i64 a] w fun e w' => e = .returned (.bool (knownB a)) ∧ w = w' := by
  unfold knownB
  go_enter Tryz.func173, Tryz.ntmps173
  go_wp2
  all_goals go_ret
  all_goals exact ⟨ret_bool (by first | rfl | (simp; done) | (simp; omega)), rfl⟩
def timeB (a : Int) : Bool := decide (0 ≤ a) && decide (a ≤ 1000000)
theorem Time_any (a : Int) (w : World) : Calls Tryz.prog 174 #[.int .i64 a] w fun e w' => e = .returned (.bool (timeB a)) ∧ w = w' := by
  unfold timeB
  go_enter Tryz.func174, Tryz.ntmps174
  go_wp2
  all_goals go_ret
  all_goals exact ⟨ret_bool (by first | rfl | (simp; done) | (simp; omega)), rfl⟩
theorem ckStrokes_cons {la : Int} {y : Stk} {l : List Stk} (e : Int) (h : ckStrokes la (y :: l) = e) :
    (knownB y.1 = false → e = 2) ∧ (knownB y.1 = true → (y.1 = la → e = 7) ∧ (y.1 ≠ la → (y.1 < la → e = 9) ∧ (¬ y.1 < la → ckStrokes y.1 l = e))) := by
  unfold ckStrokes at h
  unfold knownB
  refine ⟨fun k => ?_, fun k => ⟨fun k2 => ?_, fun k2 => ⟨fun k3 => ?_, fun k3 => ?_⟩⟩⟩
  all_goals simp only [Bool.and_eq_true, Bool.and_eq_false_iff, decide_eq_true_eq, decide_eq_false_iff_not] at k
  · rw [if_pos (by omega)] at h; exact h.symm
  · rw [if_neg (by omega), if_pos k2] at h; exact h.symm
  · rw [if_neg (by omega), if_neg k2, if_pos k3] at h; exact h.symm
  · rw [if_neg (by omega), if_neg k2, if_neg k3] at h; exact h
theorem drop_cons {α : Type} (l : List α) (d : α) {k : Nat} (h : k < l.length) : l.drop k = l.getD k d :: l.drop (k + 1) := by
  rw [List.drop_eq_getElem_cons h, List.getD_eq_getElem?_getD, List.getElem?_eq_getElem h]; rfl
set_option maxHeartbeats 1000000 in
theorem CheckStep_any (l : List Stk) (wait : Int) (a : Option Addr) (cap : Nat) (w : World) (hl : l.length ≤ maxLen) (hc : CellsK w a l) :
    Calls Tryz.prog 208 #[.agg #[.slice a l.length cap, .int .i64 wait]] w fun e w' => e = .returned (.int .i64 (ckStep (l, wait))) ∧ Ext w w' := by
  have HC := Lib.hid hc
  unfold maxLen at hl
  clear hc
  by_cases h0 : l.length = 0
  · have hf : Hid (ckStep (l, wait) = 13) := by show _ = _; unfold ckStep; rw [if_pos h0]
    have h0' : ((l.length : Int) == 0) = true := by simp [h0]
    have h0b : (l.length == 0) = true := by simp [h0]
    go_enter Tryz.func208, Tryz.ntmps208
    go_wp2
    all_goals go_ret
    all_goals exact ⟨ret_int hf.out.symm, (Ext.refl _).alloc _⟩
  · have h0' : ((l.length : Int) == 0) = false := beq_eq_false_iff_ne.2 (by omega)
    have h0b : (l.length == 0) = false := beq_eq_false_iff_ne.2 h0
    by_cases h6 : 6 < l.length
    · have hf : Hid (ckStep (l, wait) = 5) := by show _ = _; unfold ckStep; rw [if_neg h0, if_pos h6]
      go_enter Tryz.func208, Tryz.ntmps208
      go_wp2
      all_goals go_ret
      all_goals exact ⟨ret_int hf.out.symm, (Ext.refl _).alloc _⟩
    · have hf : Hid (ckStep (l, wait) = if ckStrokes (-1) l ≠ 0 then ckStrokes (-1) l else if wait < 0 ∨ 1000000 < wait then 2 else 0) := by show _ = _; unfold ckStep; rw [if_neg h0, if_neg h6]
      clear h0
      go_enter Tryz.func208, Tryz.ntmps208
      go_wp2
      have H : Ext w (w.alloc (.cells #[.slice a l.length cap, .int .i64 wait] 128)) := (Ext.refl _).alloc _
      have c1 : (w.alloc (.cells #[.slice a l.length cap, .int .i64 wait] 128)).cell? ⟨w.heap.size, 1, none⟩ = some (.int .i64 wait) := by go_simp
      generalize w.alloc (.cells #[.slice a l.length cap, .int .i64 wait] 128) = W at H c1 ⊢
      have HC : Hid (CellsK W a l) := HC.out.ext H
      go_loopw [19, 4] (fun i la wr => ∃ k : Nat, k ≤ l.length ∧ i = .int .i64 k ∧ (∃ z : Int, la = .int .i64 z ∧ Hid (ckStrokes z (l.drop k) = ckStrokes (-1) l)) ∧ Ext W wr) (fun i _ _ => l.length - (intOf i).toNat)
      case atStart => exact ⟨0, Nat.zero_le _, rfl, ⟨-1, rfl, by show _ = _; rfl⟩, Ext.refl _⟩
      case round =>
        obtain ⟨k, hk, rfl, ⟨z, rfl, hz⟩, he⟩ := hrel
        have d1 := he.cell c1
        by_cases hlt : k < l.length
        · obtain ⟨b, off, ha, e1, e2⟩ := HC.out.ext he k hlt
          subst ha
          have hz1 := hz.out
          rw [drop_cons l stk0 hlt] at hz1
          have HZ := Lib.hid (ckStrokes_cons _ hz1)
          clear hz1 hz
          generalize l.getD k stk0 = y at e1 e2 HZ
          obtain ⟨ya, yo⟩ := y
          dsimp only at e1 e2 HZ
          have z1 := cell_lt e1
          dsimp only at z1
          cases hkn : knownB ya
          · have hf2 : Hid (ckStep (l, wait) = 2) := by
              show _ = _
              have h := HZ.out.1 hkn
              rw [hf.out, h]; rfl
            clear HZ
            go_wp2_with (go_at_call 232; (with_reducible refine (known_any _ _).mono ?_); rintro e w1 ⟨rfl, rfl⟩)
            go_ret
            exact ⟨ret_int hf2.out.symm, (H.trans he).alloc _⟩
          · have HZ2 := Lib.hid (HZ.out.2 hkn)
            clear HZ
            by_cases h7 : ya = z
            · have hf2 : Hid (ckStep (l, wait) = 7) := by
                show _ = _
                have h := HZ2.out.1 h7
                rw [hf.out, h]; rfl
              subst h7
              clear HZ2
              go_wp2_with (go_at_call 232; (with_reducible refine (known_any _ _).mono ?_); rintro e w1 ⟨rfl, rfl⟩)
              go_ret
              exact ⟨ret_int hf2.out.symm, (H.trans he).alloc _⟩
            · have h7b : (ya == z) = false := by simpa using h7
              have HZ3 := Lib.hid (HZ2.out.2 h7)
              clear HZ2 h7
              by_cases h9 : ya < z
              · have hf2 : Hid (ckStep (l, wait) = 9) := by
                  show _ = _
                  have h := HZ3.out.1 h9
                  rw [hf.out, h]; rfl
                clear HZ3
                go_wp2_with (go_at_call 232; (with_reducible refine (known_any _ _).mono ?_); rintro e w1 ⟨rfl, rfl⟩)
                go_ret
                exact ⟨ret_int hf2.out.symm, (H.trans he).alloc _⟩
              · have HZ4 := Lib.hid (HZ3.out.2 h9)
                clear HZ3
                go_wp2_with (go_at_call 232; (with_reducible refine (known_any _ _).mono ?_); rintro e w1 ⟨rfl, rfl⟩)
                refine ⟨⟨k + 1, by omega, by go_num, ⟨ya, rfl, HZ4⟩, he.alloc _⟩, by simp [intOf]; omega⟩
        · have hz1 := hz.out
          rw [List.drop_eq_nil_of_le (by omega)] at hz1
          have hf2 : Hid (ckStep (l, wait) = if wait < 0 ∨ 1000000 < wait then 2 else 0) := by
            show _ = _
            rw [hf.out, ← hz1]; rfl
          clear hz1 hz hf
          by_cases g1 : wait < 0
          · go_wp2
            all_goals go_ret
            all_goals exact ⟨ret_int (by rw [hf2.out, if_pos (Or.inl g1)]), H.trans he⟩
          · by_cases g2 : 1000000 < wait
            · go_wp2
              all_goals go_ret
              all_goals exact ⟨ret_int (by rw [hf2.out, if_pos (Or.inr g2)]), H.trans he⟩
            · go_wp2
              all_goals go_ret
              all_goals exact ⟨ret_int (by rw [hf2.out, if_neg (by omega)]), H.trans he⟩
def lastAt (l : List Stk) (k : Nat) : Int := if k = 0 then -1 else (l.getD (k - 1) stk0).1
set_option maxHeartbeats 2000000 in
theorem CheckStepR_any (l : List Stk) (wait : Int) (a : Option Addr) (cap : Nat) (w : World) (hl : l.length ≤ maxLen) (hc : CellsK w a l) :
    Calls Tryz.prog 133 #[.agg #[.slice a l.length cap, .int .i64 wait]] w fun e w' => e = .returned (.int .i64 (ckStep (l, wait))) ∧ Ext w w' := by
  have HC := Lib.hid hc
  unfold maxLen at hl
  clear hc
  by_cases h0 : l.length = 0
  · have hf : Hid (ckStep (l, wait) = 13) := by show _ = _; unfold ckStep; rw [if_pos h0]
    have h0' : ((l.length : Int) == 0) = true := by simp [h0]
    have h0b : (l.length == 0) = true := by simp [h0]
    go_enter Tryz.func133, Tryz.ntmps133
    go_wp2
    all_goals go_ret
    all_goals exact ⟨ret_int hf.out.symm, (Ext.refl _).alloc _⟩
  · have h0' : ((l.length : Int) == 0) = false := beq_eq_false_iff_ne.2 (by omega)
    have h0b : (l.length == 0) = false := beq_eq_false_iff_ne.2 h0
    by_cases h6 : 6 < l.length
    · have hf : Hid (ckStep (l, wait) = 5) := by show _ = _; unfold ckStep; rw [if_neg h0, if_pos h6]
      go_enter Tryz.func133, Tryz.ntmps133
      go_wp2
      all_goals go_ret
      all_goals exact ⟨ret_int hf.out.symm, (Ext.refl _).alloc _⟩
    · have hf : Hid (ckStep (l, wait) = if ckStrokes (-1) l ≠ 0 then ckStrokes (-1) l else if wait < 0 ∨ 1000000 < wait then 2 else 0) := by show _ = _; unfold ckStep; rw [if_neg h0, if_neg h6]
      clear h0
      go_enter Tryz.func133, Tryz.ntmps133
      go_wp2
      have H : Ext w (w.alloc (.cells #[.slice a l.length cap, .int .i64 wait] 128)) := (Ext.refl _).alloc _
      have c0 : (w.alloc (.cells #[.slice a l.length cap, .int .i64 wait] 128)).cell? ⟨w.heap.size, 0, none⟩ = some (.slice a l.length cap) := by go_simp
      have c1 : (w.alloc (.cells #[.slice a l.length cap, .int .i64 wait] 128)).cell? ⟨w.heap.size, 1, none⟩ = some (.int .i64 wait) := by go_simp
      generalize w.alloc (.cells #[.slice a l.length cap, .int .i64 wait] 128) = W at H c0 c1 ⊢
      have HC : Hid (CellsK W a l) := HC.out.ext H
      go_loopw [3] (fun i wr => ∃ k : Nat, k ≤ l.length ∧ i = .int .i64 k ∧ Hid (ckStrokes (lastAt l k) (l.drop k) = ckStrokes (-1) l) ∧ Ext W wr) (fun i _ => l.length - (intOf i).toNat)
      case atStart => exact ⟨0, Nat.zero_le _, rfl, by show _ = _; rfl, Ext.refl _⟩
      case round =>
        obtain ⟨k, hk, rfl, hz, he⟩ := hrel
        have d0 := he.cell c0
        have d1 := he.cell c1
        by_cases hlt : k < l.length
        · obtain ⟨b, off, ha, e1, e2⟩ := HC.out.ext he k hlt
          have hz1 := hz.out
          rw [drop_cons l stk0 hlt] at hz1
          have HZ := Lib.hid (ckStrokes_cons _ hz1)
          have HL : Hid (lastAt l (k + 1) = (l.getD k stk0).1) := by show _ = _; unfold lastAt; simp
          have HK : Hid (0 < k → ∃ z, w.heap.size = w.heap.size ∧ lastAt l k = z ∧ W.cell? ⟨b, off + (k - 1) * 2, none⟩ = some (.int .i64 z)) := fun hk0 => by
            obtain ⟨b', off', ha', e1', _⟩ := HC.out (k - 1) (by omega)
            rw [ha] at ha'
            injection ha' with ha'
            injection ha' with h1 h2 _
            subst h1; subst h2
            exact ⟨_, rfl, rfl, by rw [e1']; unfold lastAt; rw [if_neg (by omega)]⟩
          subst ha
          clear hz1 hz
          generalize l.getD k stk0 = y at e1 e2 HZ HL
          obtain ⟨ya, yo⟩ := y
          dsimp only at e1 e2 HZ HL
          have z1 := cell_lt e1
          dsimp only at z1
          cases hkn : knownB ya
          · have hf2 : Hid (ckStep (l, wait) = 2) := by
              show _ = _
              have h := HZ.out.1 hkn
              rw [hf.out, h]; rfl
            clear HZ
            go_wp2_with (go_at_call 173; (with_reducible refine (Actuator_any _ _).mono ?_); rintro e w1 ⟨rfl, rfl⟩)
            go_ret
            exact ⟨ret_int hf2.out.symm, H.trans he⟩
          · have HZ2 := Lib.hid (HZ.out.2 hkn)
            clear HZ
            have hya : 0 ≤ ya ∧ ya < 6 := by unfold knownB at hkn; simpa using hkn
            by_cases hk0 : k = 0
            · subst hk0
              have e1 : wr.cell? ⟨b, off, none⟩ = some (.int .i64 ya) := by simpa using e1
              have hlast : lastAt l 0 = -1 := rfl
              rw [hlast] at HZ2
              have hfin : Hid (ckStrokes ya (l.drop 1) = ckStrokes (-1) l) := (HZ2.out.2 (by omega)).2 (by omega)
              clear HZ2 HK hlast
              go_wp2_with (go_at_call 173; (with_reducible refine (Actuator_any _ _).mono ?_); rintro e w1 ⟨rfl, rfl⟩)
              go_quiet (fail)
              go_wp2
              go_quiet (fail)
              go_wp2
              refine ⟨⟨1, by omega, by go_num, by rw [HL.out]; exact hfin, extA⟩, by simp [intOf]; omega⟩
            · obtain ⟨z, _, hz3, hz4⟩ := HK.out (by omega)
              rw [hz3] at HZ2
              clear HK hz3
              have hz4 := he.cell hz4
              have hk1 : 0 < k := by omega
              have hk2 : ((k : Int) - 1).toNat = k - 1 := by omega
              have hk3 : 0 ≤ (k : Int) - 1 := by omega
              have hk4 : (k : Int) - 1 < l.length := by omega
              clear hk0
              by_cases h7 : ya = z
              · have hf2 : Hid (ckStep (l, wait) = 7) := by
                  show _ = _
                  have h := HZ2.out.1 h7
                  rw [hf.out, h]; rfl
                subst h7
                clear HZ2
                go_wp2_with (go_at_call 173; (with_reducible refine (Actuator_any _ _).mono ?_); rintro e w1 ⟨rfl, rfl⟩)
                go_quiet (fail)
                go_wp2
                go_ret
                exact ⟨ret_int hf2.out.symm, extA⟩
              · have h7b : (ya == z) = false := by simpa using h7
                have HZ3 := Lib.hid (HZ2.out.2 h7)
                clear HZ2 h7
                by_cases h9 : ya < z
                · have hf2 : Hid (ckStep (l, wait) = 9) := by
                    show _ = _
                    have h := HZ3.out.1 h9
                    rw [hf.out, h]; rfl
                  clear HZ3
                  go_wp2_with (go_at_call 173; (with_reducible refine (Actuator_any _ _).mono ?_); rintro e w1 ⟨rfl, rfl⟩)
                  go_quiet (fail)
                  go_wp2
                  go_quiet (fail)
                  go_wp2
                  go_ret
                  exact ⟨ret_int hf2.out.symm, extA⟩
                · have HZ4 := Lib.hid (HZ3.out.2 h9)
                  clear HZ3
                  go_wp2_with (go_at_call 173; (with_reducible refine (Actuator_any _ _).mono ?_); rintro e w1 ⟨rfl, rfl⟩)
                  go_quiet (fail)
                  go_wp2
                  go_quiet (fail)
                  go_wp2
                  refine ⟨⟨k + 1, by omega, by go_num, by rw [HL.out]; exact HZ4, extA⟩, by simp [intOf]; omega⟩
        · have hz1 := hz.out
          rw [List.drop_eq_nil_of_le (by omega)] at hz1
          have hf2 : Hid (ckStep (l, wait) = if wait < 0 ∨ 1000000 < wait then 2 else 0) := by
            show _ = _
            rw [hf.out, ← hz1]; rfl
          clear hz1 hz hf
          cases g : timeB wait
          · have hg : wait < 0 ∨ 1000000 < wait := by unfold timeB at g; simp at g; omega
            have hf2 : Hid (ckStep (l, wait) = 2) := by show _ = _; rw [hf2.out, if_pos hg]
            clear hg
            go_wp2_with (go_at_call 174; (with_reducible refine (Time_any _ _).mono ?_); rintro e w1 ⟨rfl, rfl⟩)
            go_ret
            exact ⟨ret_int hf2.out.symm, H.trans he⟩
          · have hg : ¬ (wait < 0 ∨ 1000000 < wait) := by unfold timeB at g; simp at g; omega
            have hf2 : Hid (ckStep (l, wait) = 0) := by show _ = _; rw [hf2.out, if_neg hg]
            clear hg
            go_wp2_with (go_at_call 174; (with_reducible refine (Time_any _ _).mono ?_); rintro e w1 ⟨rfl, rfl⟩)
            go_ret
            exact ⟨ret_int hf2.out.symm, H.trans he⟩
end Go.Proofs.YtlnonmmaknhppaaGreatDoor
namespace Go.Proofs.YtlnonmmaknhppaaGreatDoor
open Go.RowKit
def endsV (e : Int → Bool) : Value := .agg #[.bool (e 0), .bool (e 1), .bool (e 2), .bool (e 3), .bool (e 4), .bool (e 5)]
def EndsAt (w : World) (p : Nat) (e : Int → Bool) : Prop := ∀ k : Nat, k < 6 → w.cell? ⟨p, k, none⟩ = some (.bool (e k)) ∧ w.frozen? ⟨p, k, none⟩ = false
theorem EndsAt.ext {w w' : World} {p : Nat} {e : Int → Bool} (h : EndsAt w p e) (he : Ext w w') : EndsAt w' p e := fun k hk =>
  ⟨he.cell (h k hk).1, (Below.frozen (p := ⟨p, k, none⟩) he (cell_lt (h k hk).1)).trans (h k hk).2⟩
theorem EndsAt.set {w : World} {p : Nat} {e : Int → Bool} (h : EndsAt w p e) {a : Int} (h0 : 0 ≤ a) (h6 : a < 6) (b : Bool) : EndsAt (w.setCell ⟨p, a.toNat, none⟩ (.bool b)) p (fun i => if i = a then b else e i) := fun k hk => by
  refine ⟨?_, by rw [World.frozen?_setCell]; exact (h k hk).2⟩
  by_cases c : k = a.toNat
  · subst c
    rw [World.cell?_setCell_same _ _ _ (h _ hk).1]; show _ = some (Value.bool (if _ then _ else _)); rw [if_pos (by omega)]
  · rw [World.cell?_setCell_other _ _ _ _ (fun x => by simp only [Addr.mk.injEq] at x; omega), (h k hk).1]; show _ = some (Value.bool (if _ then _ else _)); rw [if_neg (by omega)]
theorem EndsAt.other {w : World} {p q : Nat} {e : Int → Bool} (h : EndsAt w p e) (hq : q ≠ p) (j : Nat) (v : Value) : EndsAt (w.setCell ⟨q, j, none⟩ v) p e := fun k hk => by
  refine ⟨?_, by rw [World.frozen?_setCell]; exact (h k hk).2⟩
  rw [World.cell?_setCell_other _ _ _ _ (fun x => by simp only [Addr.mk.injEq] at x; omega), (h k hk).1]
theorem EndsAt.drew {w : World} {p : Nat} {e : Int → Bool} (h : EndsAt w p e) : EndsAt w.drew p e := h.ext (Ext.refl _).drew
theorem ends_new {w : World} {t : TypeId} {p : Nat} (hp : w.heap.size = p) (e : Int → Bool) : EndsAt (w.alloc (.cells #[.bool (e 0), .bool (e 1), .bool (e 2), .bool (e 3), .bool (e 4), .bool (e 5)] t)) p e := by
  subst hp
  intro k hk
  have : k = 0 ∨ k = 1 ∨ k = 2 ∨ k = 3 ∨ k = 4 ∨ k = 5 := by omega
  rcases this with rfl | rfl | rfl | rfl | rfl | rfl
  all_goals exact ⟨by rw [World.cell?_alloc_new]; rfl, by simp [go_sem]⟩
theorem ckStrokes_known {l : List Stk} {z : Int} (h : ckStrokes z l = 0) : ∀ y ∈ l, 0 ≤ y.1 ∧ y.1 < 6 := by
  induction l generalizing z with
  | nil => intro y hy; cases hy
  | cons x l ih =>
    unfold ckStrokes at h
    by_cases h1 : x.1 < 0 ∨ 6 ≤ x.1
    · rw [if_pos h1] at h; cases h
    · rw [if_neg h1] at h
      by_cases h2 : x.1 = z
      · rw [if_pos h2] at h; cases h
      · rw [if_neg h2] at h
        by_cases h3 : x.1 < z
        · rw [if_pos h3] at h; cases h
        · rw [if_neg h3] at h
          intro y hy
          rcases List.mem_cons.1 hy with rfl | hy
          · omega
          · exact ih h y hy
theorem ckStep_strokes {x : Stp} (h : ckStep x = 0) : ckStrokes (-1) x.1 = 0 ∧ x.1.length ≤ 6 ∧ 0 < x.1.length ∧ 0 ≤ x.2 ∧ x.2 ≤ 1000000 := by
  unfold ckStep at h
  by_cases h1 : x.1.length = 0
  · rw [if_pos h1] at h; cases h
  · rw [if_neg h1] at h
    by_cases h2 : 6 < x.1.length
    · rw [if_pos h2] at h; cases h
    · rw [if_neg h2] at h
      by_cases h3 : ckStrokes (-1) x.1 ≠ 0
      · rw [if_pos h3] at h; exact absurd h h3
      · rw [if_neg h3] at h
        by_cases h4 : x.2 < 0 ∨ 1000000 < x.2
        · rw [if_pos h4] at h; cases h
        · omega
theorem ckStep_known {x : Stp} (h : ckStep x = 0) : ∀ k, k < x.1.length → 0 ≤ (x.1.getD k stk0).1 ∧ (x.1.getD k stk0).1 < 6 := fun k hk => by
  rw [List.getD_eq_getElem?_getD, List.getElem?_eq_getElem hk]
  exact ckStrokes_known (ckStep_strokes h).1 _ (List.getElem_mem hk)
theorem any_drop {α : Type} (f : α → Bool) (l : List α) (d : α) {k : Nat} (h : k < l.length) {b : Bool} (e : (l.drop k).any f = b) : (f (l.getD k d) || (l.drop (k + 1)).any f) = b := by
  rw [drop_cons l d h, List.any_cons] at e; exact e
theorem high_drop {n : Int} {l : List Stk} {k : Nat} (h : k < l.length) {b : Bool} (e : anyHigh n (l.drop k) = b) : (decide (n ≤ (l.getD k stk0).1) || anyHigh n (l.drop (k + 1))) = b := any_drop (fun y : Stk => decide (n ≤ y.1)) l stk0 h e
theorem same_drop {f : Int → Bool} {l : List Stk} {k : Nat} (h : k < l.length) {b : Bool} (e : anySame f (l.drop k) = b) : ((f (l.getD k stk0).1 == (l.getD k stk0).2) || anySame f (l.drop (k + 1))) = b := any_drop (fun y : Stk => f y.1 == y.2) l stk0 h e
set_option maxHeartbeats 2000000 in
theorem fits_any (n : Int) (sv : Value) (l : List Stk) (wait : Int) (a : Option Addr) (cap : Nat) (e : Int → Bool) (w : World) (hl : l.length ≤ maxLen) (hc : CellsK w a l) :
    Calls Tryz.prog 168 #[.agg #[.int .i64 n, sv], .agg #[.slice a l.length cap, .int .i64 wait], endsV e] w fun r w' => r = .returned (.int .i64 (ckFit n (l, wait) e)) ∧ Ext w w' := by
  have HC := Lib.hid hc
  have HL := Lib.hid hl
  unfold maxLen at hl
  unfold endsV
  clear hc
  by_cases h0 : ckStep (l, wait) = 0
  · have hf : Hid (ckFit n (l, wait) e = if anyHigh n l then 6 else if anySame e l then 14 else 0) := by show _ = _; unfold ckFit; rw [if_neg (by simp [h0])]
    have HK := Lib.hid (ckStep_known h0)
    have H0 := Lib.hid h0
    clear h0
    go_enter Tryz.func168, Tryz.ntmps168
    go_wp2_with fail
    have E1 : Ext w (((w.alloc (.cells #[.int .i64 n, sv] 71)).alloc (.cells #[.slice a l.length cap, .int .i64 wait] 128)).alloc (.cells #[.bool (e 0), .bool (e 1), .bool (e 2), .bool (e 3), .bool (e 4), .bool (e 5)] 216)) := extA
    have c1 : (((w.alloc (.cells #[.int .i64 n, sv] 71)).alloc (.cells #[.slice a l.length cap, .int .i64 wait] 128)).alloc (.cells #[.bool (e 0), .bool (e 1), .bool (e 2), .bool (e 3), .bool (e 4), .bool (e 5)] 216)).cell? ⟨w.heap.size, 0, none⟩ = some (.int .i64 n) := by go_simp
    have c2 : (((w.alloc (.cells #[.int .i64 n, sv] 71)).alloc (.cells #[.slice a l.length cap, .int .i64 wait] 128)).alloc (.cells #[.bool (e 0), .bool (e 1), .bool (e 2), .bool (e 3), .bool (e 4), .bool (e 5)] 216)).cell? ⟨w.heap.size + 1, 0, none⟩ = some (.slice a l.length cap) := by go_simp
    have c3 : EndsAt (((w.alloc (.cells #[.int .i64 n, sv] 71)).alloc (.cells #[.slice a l.length cap, .int .i64 wait] 128)).alloc (.cells #[.bool (e 0), .bool (e 1), .bool (e 2), .bool (e 3), .bool (e 4), .bool (e 5)] 216)) (w.heap.size + 1 + 1) e := ends_new (by simp) e
    generalize ((w.alloc (.cells #[.int .i64 n, sv] 71)).alloc (.cells #[.slice a l.length cap, .int .i64 wait] 128)).alloc (.cells #[.bool (e 0), .bool (e 1), .bool (e 2), .bool (e 3), .bool (e 4), .bool (e 5)] 216) = W at E1 c1 c2 c3 ⊢
    refine (CheckStep_any l wait a cap _ HL.out (HC.out.ext E1)).mono ?_
    rintro r w1 ⟨rfl, hE⟩
    rw [H0.out]
    have E2 := E1.trans hE
    have c1 := hE.cell c1
    have c2 := hE.cell c2
    have C3 := Lib.hid (c3.ext hE)
    clear c3
    go_wp2
    go_loopw [20] (fun i wr => ∃ k : Nat, k ≤ l.length ∧ i = .int .i64 k ∧ Hid (anyHigh n (l.drop k) = anyHigh n l) ∧ Ext w1 wr) (fun i _ => l.length - (intOf i).toNat)
    case atStart => exact ⟨0, Nat.zero_le _, rfl, by show _ = _; rfl, Ext.refl _⟩
    case round =>
      obtain ⟨k, hk, rfl, hz, he⟩ := hrel
      have d1 := he.cell c1
      have d2 := he.cell c2
      have y1 := cell_lt d1
      dsimp only at y1
      by_cases hlt : k < l.length
      · obtain ⟨b, off, ha, e1, e2⟩ := HC.out.ext (E2.trans he) k hlt
        subst ha
        have HZ := Lib.hid (high_drop hlt hz.out)
        clear hz
        generalize l.getD k stk0 = y at e1 e2 HZ
        obtain ⟨ya, yo⟩ := y
        dsimp only at e1 e2 HZ
        have z1 := cell_lt e1
        dsimp only at z1
        by_cases hh : n ≤ ya
        · have hf2 : Hid (ckFit n (l, wait) e = 6) := by
            show _ = _
            have h := HZ.out
            rw [decide_eq_true hh, Bool.true_or] at h
            rw [hf.out, ← h]; rfl
          clear HZ
          go_wp2
          go_ret
          exact ⟨ret_int hf2.out.symm, extA⟩
        · have HZ2 : Hid (anyHigh n (l.drop (k + 1)) = anyHigh n l) := by
            show _ = _
            have h := HZ.out
            rw [decide_eq_false hh, Bool.false_or] at h
            exact h
          clear HZ
          go_wp2
          refine ⟨⟨k + 1, by omega, by go_num, HZ2, extA⟩, by simp [intOf]; omega⟩
      · have hf2 : Hid (ckFit n (l, wait) e = if anySame e l then 14 else 0) := by
          show _ = _
          have h := hz.out
          rw [List.drop_eq_nil_of_le (by omega)] at h
          rw [hf.out, ← h]; rfl
        clear hz hf
        have C4 := Lib.hid (C3.out.ext he)
        clear C3
        go_wp2
        generalize wr = W3 at *
        go_loopw [33] (fun i w4 => ∃ k : Nat, k ≤ l.length ∧ i = .int .i64 k ∧ Hid (anySame e (l.drop k) = anySame e l) ∧ Ext W3 w4) (fun i _ => l.length - (intOf i).toNat)
        case atStart => exact ⟨0, Nat.zero_le _, rfl, by show _ = _; rfl, Ext.refl _⟩
        case round =>
          obtain ⟨k2, hk2, rfl, hz, he2⟩ := hrel
          by_cases hlt2 : k2 < l.length
          · obtain ⟨b, off, ha, e1, e2⟩ := HC.out.ext ((E2.trans he).trans he2) k2 hlt2
            subst ha
            have HZ := Lib.hid (same_drop hlt2 hz.out)
            have hkn := HK.out k2 hlt2
            clear hz
            generalize l.getD k2 stk0 = y at e1 e2 HZ hkn
            obtain ⟨ya, yo⟩ := y
            dsimp only at e1 e2 HZ hkn
            obtain ⟨g0, g6⟩ := hkn
            have e3 := (C4.out.ext he2 ya.toNat (by omega)).1
            rw [Int.toNat_of_nonneg g0] at e3
            have z1 := cell_lt e1
            have z3 := cell_lt e3
            dsimp only at z1 z3
            cases hh : (e ya == yo)
            · have HZ2 : Hid (anySame e (l.drop (k2 + 1)) = anySame e l) := by
                show _ = _
                have h := HZ.out
                rw [hh, Bool.false_or] at h
                exact h
              clear HZ
              go_wp2
              go_quiet (fail)
              go_wp2
              refine ⟨⟨k2 + 1, by omega, by go_num, HZ2, extA⟩, by simp [intOf]; omega⟩
            · have hf3 : Hid (ckFit n (l, wait) e = 14) := by
                show _ = _
                have h := HZ.out
                rw [hh, Bool.true_or] at h
                rw [hf2.out, ← h]; rfl
              clear HZ
              go_wp2
              go_quiet (fail)
              go_wp2
              go_ret
              exact ⟨ret_int hf3.out.symm, extA⟩
          · have hf3 : Hid (ckFit n (l, wait) e = 0) := by
              show _ = _
              have h := hz.out
              rw [List.drop_eq_nil_of_le (by omega)] at h
              rw [hf2.out, ← h]; rfl
            clear hz hf2
            go_wp2
            go_ret
            exact ⟨ret_int hf3.out.symm, extA⟩
  · have hf : Hid (ckFit n (l, wait) e = ckStep (l, wait)) := by show _ = _; unfold ckFit; rw [if_pos h0]
    have hn : (ckStep (l, wait) != 0) = true := by simp [h0]
    clear h0
    generalize hz : ckStep (l, wait) = z at hf hn
    have HZ := Lib.hid hz
    clear hz
    go_enter Tryz.func168, Tryz.ntmps168
    go_wp2_with fail
    have E1 : Ext w (((w.alloc (.cells #[.int .i64 n, sv] 71)).alloc (.cells #[.slice a l.length cap, .int .i64 wait] 128)).alloc (.cells #[.bool (e 0), .bool (e 1), .bool (e 2), .bool (e 3), .bool (e 4), .bool (e 5)] 216)) := extA
    refine (CheckStep_any l wait a cap _ HL.out (HC.out.ext E1)).mono ?_
    rintro r w1 ⟨rfl, hE⟩
    rw [HZ.out]
    go_wp2
    go_ret
    exact ⟨ret_int hf.out.symm, extA⟩
end Go.Proofs.YtlnonmmaknhppaaGreatDoor
namespace Go.Proofs.YtlnonmmaknhppaaGreatDoor
open Go.RowKit
theorem foldl_drop {α β : Type} (f : β → α → β) (l : List α) (d : α) (b : β) {k : Nat} (h : k < l.length) : (l.take (k + 1)).foldl f b = f ((l.take k).foldl f b) (l.getD k d) := by
  rw [List.take_succ_eq_append_getElem h, List.foldl_append, List.getD_eq_getElem?_getD, List.getElem?_eq_getElem h]; rfl
theorem beh_take (e : Int → Bool) (l : List Stk) {k : Nat} (h : k < l.length) : beh e (l.take (k + 1)) = fun i => if i = (l.getD k stk0).1 then (l.getD k stk0).2 else beh e (l.take k) i := foldl_drop _ l stk0 e h
def Known (l : List Stk) : Prop := ∀ k, k < l.length → 0 ≤ (l.getD k stk0).1 ∧ (l.getD k stk0).1 < 6
set_option maxHeartbeats 2000000 in
theorem behind_any (l : List Stk) (wait : Int) (a : Option Addr) (cap : Nat) (e : Int → Bool) (w : World) (hl : l.length ≤ maxLen) (hc : CellsK w a l) (hk : Known l) :
    Calls Tryz.prog 169 #[endsV e, .agg #[.slice a l.length cap, .int .i64 wait]] w fun r w' => r = .returned (endsV (beh e l)) ∧ Ext w w' := by
  have HC := Lib.hid hc
  have HK := Lib.hid hk
  unfold maxLen at hl
  unfold endsV
  clear hc hk
  go_enter Tryz.func169, Tryz.ntmps169
  go_wp2
  have E1 : Ext w (((w.alloc (.cells #[.bool (e 0), .bool (e 1), .bool (e 2), .bool (e 3), .bool (e 4), .bool (e 5)] 216)).alloc (.cells #[.slice a l.length cap, .int .i64 wait] 128)).alloc (.cells #[.bool false, .bool false, .bool false, .bool false, .bool false, .bool false] 216)) := extA
  have c1 : EndsAt (((w.alloc (.cells #[.bool (e 0), .bool (e 1), .bool (e 2), .bool (e 3), .bool (e 4), .bool (e 5)] 216)).alloc (.cells #[.slice a l.length cap, .int .i64 wait] 128)).alloc (.cells #[.bool false, .bool false, .bool false, .bool false, .bool false, .bool false] 216)) w.heap.size e := ((ends_new rfl e).ext ((Ext.refl _).alloc _)).ext ((Ext.refl _).alloc _)
  have c2 : EndsAt (((w.alloc (.cells #[.bool (e 0), .bool (e 1), .bool (e 2), .bool (e 3), .bool (e 4), .bool (e 5)] 216)).alloc (.cells #[.slice a l.length cap, .int .i64 wait] 128)).alloc (.cells #[.bool false, .bool false, .bool false, .bool false, .bool false, .bool false] 216)) (w.heap.size + 1 + 1) (fun _ => false) := ends_new (by simp) (fun _ => false)
  have s1 : w.heap.size + 1 + 1 < (((w.alloc (.cells #[.bool (e 0), .bool (e 1), .bool (e 2), .bool (e 3), .bool (e 4), .bool (e 5)] 216)).alloc (.cells #[.slice a l.length cap, .int .i64 wait] 128)).alloc (.cells #[.bool false, .bool false, .bool false, .bool false, .bool false, .bool false] 216)).heap.size := by simp
  generalize (((w.alloc (.cells #[.bool (e 0), .bool (e 1), .bool (e 2), .bool (e 3), .bool (e 4), .bool (e 5)] 216)).alloc (.cells #[.slice a l.length cap, .int .i64 wait] 128)).alloc (.cells #[.bool false, .bool false, .bool false, .bool false, .bool false, .bool false] 216)) = W at E1 c1 c2 s1 ⊢
  have C1 := Lib.hid c1
  have C2 := Lib.hid c2
  clear c1 c2
  go_loopw [10] (fun i wr => ∃ k : Nat, k ≤ l.length ∧ i = .int .i64 k ∧ Ext w wr ∧ W.heap.size ≤ wr.heap.size ∧ Hid (EndsAt wr w.heap.size (beh e (l.take k))) ∧ Hid (EndsAt wr (w.heap.size + 1 + 1) (fun _ => false))) (fun i _ => l.length - (intOf i).toNat)
  case atStart => exact ⟨0, Nat.zero_le _, rfl, E1, Nat.le_refl _, C1, C2⟩
  case round =>
    obtain ⟨k, hk, rfl, he, hsz, D1, D2⟩ := hrel
    clear C1 C2
    by_cases hlt : k < l.length
    · obtain ⟨b, off, ha, e1, e2⟩ := HC.out.ext he k hlt
      subst ha
      have hkn := HK.out k hlt
      have hb := beh_take e l hlt
      have HB := Lib.hid hb
      clear hb
      generalize l.getD k stk0 = y at e1 e2 hkn HB
      obtain ⟨ya, yo⟩ := y
      dsimp only at e1 e2 hkn HB
      obtain ⟨g0, g6⟩ := hkn
      obtain ⟨e3, e4⟩ := D1.out ya.toNat (by omega)
      rw [Int.toNat_of_nonneg g0] at e3
      have z1 := cell_lt e1
      dsimp only at z1
      have z2 : w.heap.size < wr.heap.size := by omega
      have E5 : Ext w ((wr.setCell ⟨w.heap.size, ya.toNat, none⟩ (.bool yo)).alloc (.cells #[.int .i64 ya, .bool yo] 84)) := (Below.setCell (p := ⟨w.heap.size, ya.toNat, none⟩) he (Nat.le_refl _) (.bool yo)).alloc (by simp; omega) _
      have F1 : Hid (EndsAt ((wr.setCell ⟨w.heap.size, ya.toNat, none⟩ (.bool yo)).alloc (.cells #[.int .i64 ya, .bool yo] 84)) w.heap.size (beh e (l.take (k + 1)))) := by
        show EndsAt _ _ _
        rw [HB.out]
        exact (D1.out.set g0 g6 yo).ext ((Ext.refl _).alloc _)
      have F2 : Hid (EndsAt ((wr.setCell ⟨w.heap.size, ya.toNat, none⟩ (.bool yo)).alloc (.cells #[.int .i64 ya, .bool yo] 84)) (w.heap.size + 1 + 1) (fun _ => false)) :=
        (D2.out.other (by omega) _ _).ext ((Ext.refl _).alloc _)
      clear D1 D2
      go_wp2
      refine ⟨⟨k + 1, by omega, by go_num, E5, by simp; omega, F1, F2⟩, by simp [intOf]; omega⟩
    · have ht : l.take k = l := List.take_of_length_le (by omega)
      rw [ht] at D1
      clear ht
      obtain ⟨f, hf⟩ : ∃ f, f = beh e l := ⟨_, rfl⟩
      rw [← hf] at D1
      have HF := Lib.hid hf
      clear hf
      have h0 := D1.out 0 (by omega)
      have h1 := D1.out 1 (by omega)
      have h2 := D1.out 2 (by omega)
      have h3 := D1.out 3 (by omega)
      have h4 := D1.out 4 (by omega)
      have h5 := D1.out 5 (by omega)
      have i0 := D2.out 0 (by omega)
      have i1 := D2.out 1 (by omega)
      have i2 := D2.out 2 (by omega)
      have i3 := D2.out 3 (by omega)
      have i4 := D2.out 4 (by omega)
      have i5 := D2.out 5 (by omega)
      simp only [Int.cast_ofNat_Int] at h0 h1 h2 h3 h4 h5
      obtain ⟨h0, _⟩ := h0
      obtain ⟨h1, _⟩ := h1
      obtain ⟨h2, _⟩ := h2
      obtain ⟨h3, _⟩ := h3
      obtain ⟨h4, _⟩ := h4
      obtain ⟨h5, _⟩ := h5
      obtain ⟨i0, j0⟩ := i0
      obtain ⟨i1, j1⟩ := i1
      obtain ⟨i2, j2⟩ := i2
      obtain ⟨i3, j3⟩ := i3
      obtain ⟨i4, j4⟩ := i4
      obtain ⟨i5, j5⟩ := i5
      clear D1 D2
      go_wp2
      refine bodyPost_ret (v := .agg #[.bool (f 0), .bool (f 1), .bool (f 2), .bool (f 3), .bool (f 4), .bool (f 5)]) (by rw [results_cell1 rfl]; go_simp) rfl ⟨by rw [← HF.out], extA⟩
end Go.Proofs.YtlnonmmaknhppaaGreatDoor
namespace Go.Proofs.YtlnonmmaknhppaaGreatDoor
open Go.RowKit
theorem neqEnds (b0 b1 b2 b3 b4 b5 : Bool) (w : World) : (binOp .neq 216 (.agg #[.bool b0, .bool b1, .bool b2, .bool b3, .bool b4, .bool b5]) (.agg #[.bool false, .bool false, .bool false, .bool false, .bool false, .bool false])).run Tryz.prog w = .ok (.bool (b0 || (b1 || (b2 || (b3 || (b4 || b5)))))) w := by
  cases b0 <;> cases b1 <;> cases b2 <;> cases b3 <;> cases b4 <;> cases b5 <;> kernel_rfl
def any6 (f : Int → Bool) : Bool := f 0 || (f 1 || (f 2 || (f 3 || (f 4 || f 5))))
def CellsB (w : World) (a : Option Addr) (n : Nat) (f : Int → Bool) : Prop := ∀ i : Nat, i < n → ∃ b off, a = some ⟨b, off, none⟩ ∧ w.cell? ⟨b, off + i, none⟩ = some (.bool (f i))
theorem CellsB.ext {w w' : World} {a : Option Addr} {n : Nat} {f : Int → Bool} (h : CellsB w a n f) (he : Ext w w') : CellsB w' a n f := fun i hi => by
  obtain ⟨b, off, h1, h2⟩ := h i hi
  exact ⟨b, off, h1, he.cell h2⟩
def hasB (n : Nat) (f : Int → Bool) (x : Bool) : Bool := (List.range n).any fun i => f i == x
theorem hasB_of {n : Nat} {f : Int → Bool} {x : Bool} {k : Nat} (hk : k < n) (h : f k = x) : hasB n f x = true := List.any_eq_true.2 ⟨k, List.mem_range.2 hk, by simp [h]⟩
theorem hasB_none {n : Nat} {f : Int → Bool} {x : Bool} (h : ∀ j : Nat, j < n → f j ≠ x) : hasB n f x = false := List.any_eq_false.2 fun i hi => by simpa using h i (List.mem_range.1 hi)
set_option maxHeartbeats 1000000 in
theorem IndexB_any (n : Nat) (f : Int → Bool) (x : Bool) (a : Option Addr) (cap : Nat) (w : World) (hl : n ≤ maxLen) (hc : CellsB w a n f) :
    Calls Tryz.prog 209 #[.slice a n cap, .bool x] w fun e w' => (∃ r : Int, e = .returned (.int .i64 r) ∧ decide (0 ≤ r) = hasB n f x) ∧ w = w' := by
  unfold maxLen at hl
  have HC := Lib.hid hc
  clear hc
  go_enter Tryz.func209, Tryz.ntmps209
  go_wp2
  go_loop [8] (fun i => ∃ k : Nat, k ≤ n ∧ i = .int .i64 k ∧ Hid (∀ j : Nat, j < k → f j ≠ x)) (fun i => n - (intOf i).toNat)
  case atStart => exact ⟨0, Nat.zero_le _, rfl, fun j hj => by omega⟩
  case round =>
    obtain ⟨k, hk, rfl, hnn⟩ := hrel
    by_cases hlt : k < n
    · obtain ⟨b, off, rfl, c1⟩ := HC.out k hlt
      by_cases hx : f k = x
      · have HB := Lib.hid (hasB_of hlt hx)
        subst hx
        go_wp2
        go_ret
        exact ⟨⟨(k : Int), rfl, by rw [HB.out]; simp⟩, rfl⟩
      · have HX := Lib.hid hx
        have hx' : (x == f k) = false := by cases hxx : x <;> cases hff : f k <;> simp_all
        clear hx
        go_wp2
        refine ⟨⟨k + 1, by omega, by go_num, fun j hj => ?_⟩, by simp [intOf]; omega⟩
        rcases Nat.lt_or_eq_of_le (Nat.le_of_lt_succ hj) with h | rfl
        · exact hnn.out j h
        · exact HX.out
    · have HB := Lib.hid (hasB_none (x := x) (f := f) (n := n) (fun j hj => hnn.out j (by omega)))
      go_wp2
      go_ret
      exact ⟨⟨-1, rfl, by rw [HB.out]; simp⟩, rfl⟩
theorem ContainsB_any (n : Nat) (f : Int → Bool) (x : Bool) (a : Option Addr) (cap : Nat) (w : World) (hl : n ≤ maxLen) (hc : CellsB w a n f) :
    Calls Tryz.prog 170 #[.slice a n cap, .bool x] w fun e w' => e = .returned (.bool (hasB n f x)) ∧ w = w' := by
  have HC := Lib.hid hc
  have HL := Lib.hid hl
  clear hc hl
  go_enter Tryz.func170, Tryz.ntmps170
  go_wp2_with fail
  refine (IndexB_any n f x a cap _ HL.out HC.out).mono ?_
  rintro e w1 ⟨⟨r, rfl, hr⟩, rfl⟩
  have HR := Lib.hid hr
  clear hr
  go_wp2
  all_goals go_ret
  all_goals exact ⟨ret_bool HR.out, rfl⟩
theorem EndsAt.store6 {w : World} {p : Nat} {e : Int → Bool} (h : EndsAt w p e) (f : Int → Bool) :
    EndsAt ((((((w.setCell ⟨p, 0, none⟩ (.bool (f 0))).setCell ⟨p, 1, none⟩ (.bool (f 1))).setCell ⟨p, 2, none⟩ (.bool (f 2))).setCell ⟨p, 3, none⟩ (.bool (f 3))).setCell ⟨p, 4, none⟩ (.bool (f 4))).setCell ⟨p, 5, none⟩ (.bool (f 5))) p f := by
  have h' := (((((h.set (a := 0) (by omega) (by omega) (f 0)).set (a := 1) (by omega) (by omega) (f 1)).set (a := 2) (by omega) (by omega) (f 2)).set (a := 3) (by omega) (by omega) (f 3)).set (a := 4) (by omega) (by omega) (f 4)).set (a := 5) (by omega) (by omega) (f 5)
  intro k hk
  refine ⟨(h' k hk).1.trans ?_, (h' k hk).2⟩
  have : k = 0 ∨ k = 1 ∨ k = 2 ∨ k = 3 ∨ k = 4 ∨ k = 5 := by omega
  rcases this with rfl | rfl | rfl | rfl | rfl | rfl <;> rfl
theorem EndsAt.six {w : World} {p : Nat} {e : Int → Bool} (h : EndsAt w p e) : ((w.cell? ⟨p, 0, none⟩ = some (.bool (e 0)) ∧ w.cell? ⟨p, 1, none⟩ = some (.bool (e 1)) ∧ w.cell? ⟨p, 2, none⟩ = some (.bool (e 2)) ∧ w.cell? ⟨p, 3, none⟩ = some (.bool (e 3)) ∧ w.cell? ⟨p, 4, none⟩ = some (.bool (e 4)) ∧ w.cell? ⟨p, 5, none⟩ = some (.bool (e 5)))) ∧
    (w.frozen? ⟨p, 0, none⟩ = false ∧ w.frozen? ⟨p, 1, none⟩ = false ∧ w.frozen? ⟨p, 2, none⟩ = false ∧ w.frozen? ⟨p, 3, none⟩ = false ∧ w.frozen? ⟨p, 4, none⟩ = false ∧ w.frozen? ⟨p, 5, none⟩ = false) :=
  ⟨⟨(h 0 (by omega)).1, (h 1 (by omega)).1, (h 2 (by omega)).1, (h 3 (by omega)).1, (h 4 (by omega)).1, (h 5 (by omega)).1⟩, (h 0 (by omega)).2, (h 1 (by omega)).2, (h 2 (by omega)).2, (h 3 (by omega)).2, (h 4 (by omega)).2, (h 5 (by omega)).2⟩
theorem ckFit_ok {n : Int} {x : Stp} {e : Int → Bool} (h : ckFit n x e = 0) : ckStep x = 0 ∧ anyHigh n x.1 = false ∧ anySame e x.1 = false := by
  unfold ckFit at h
  by_cases h1 : ckStep x = 0
  · rw [if_neg (by simp [h1])] at h
    cases h2 : anyHigh n x.1
    · cases h3 : anySame e x.1
      · exact ⟨h1, rfl, rfl⟩
      · rw [h2, h3] at h; cases h
    · rw [h2] at h; cases h
  · rw [if_pos h1] at h; exact absurd h h1
theorem ckWalk_cons {n : Int} {e : Int → Bool} {x : Stp} {l : List Stp} {r : Int} (h : ckWalk n e (x :: l) = r) : (ckFit n x e ≠ 0 → r = ckFit n x e) ∧ (ckFit n x e = 0 → ckWalk n (beh e x.1) l = r) := by
  unfold ckWalk at h
  refine ⟨fun k => ?_, fun k => ?_⟩
  · rw [if_pos k] at h; exact h.symm
  · rw [if_neg (by simp [k])] at h; exact h
theorem behAll_take (e : Int → Bool) (l : List Stp) {k : Nat} (h : k < l.length) : behAll e (l.take (k + 1)) = beh (behAll e (l.take k)) (l.getD k stp0).1 := foldl_drop _ l stp0 e h
theorem movedIn_take (a : Int) (l : List Stp) {k : Nat} (h : k < l.length) : movedIn a (l.take (k + 1)) = (movedIn a (l.take k) || movesIn a (l.getD k stp0)) := by
  unfold movedIn
  rw [List.take_succ_eq_append_getElem h, List.any_append, List.getD_eq_getElem?_getD, List.getElem?_eq_getElem h]; simp
def movesL (a : Int) (l : List Stk) : Bool := l.any fun y => y.1 == a
theorem movesL_take (a : Int) (l : List Stk) {k : Nat} (h : k < l.length) : movesL a (l.take (k + 1)) = (movesL a (l.take k) || ((l.getD k stk0).1 == a)) := by
  unfold movesL
  rw [List.take_succ_eq_append_getElem h, List.any_append, List.getD_eq_getElem?_getD, List.getElem?_eq_getElem h]; simp
theorem beh_high {n : Int} {l : List Stk} {e : Int → Bool} (h : anyHigh n l = false) {i : Int} (hi : n ≤ i) : beh e l i = e i := by
  induction l generalizing e with
  | nil => rfl
  | cons y l ih =>
    unfold anyHigh at h
    rw [List.any_cons, Bool.or_eq_false_iff] at h
    have h1 := h.1
    simp only [decide_eq_false_iff_not] at h1
    show beh (fun i => if i = y.1 then y.2 else e i) l i = _
    rw [ih h.2]
    show (if i = y.1 then y.2 else e i) = _
    rw [if_neg (by omega)]
theorem behAll_high {n : Int} {l : List Stp} {e : Int → Bool} (h : ckWalk n e l = 0) {i : Int} (hi : n ≤ i) : behAll e l i = e i := by
  induction l generalizing e with
  | nil => rfl
  | cons x l ih =>
    have hc := ckWalk_cons h
    by_cases hf : ckFit n x e = 0
    · show behAll (beh e x.1) l i = _
      rw [ih (hc.2 hf), beh_high (ckFit_ok hf).2.1 hi]
    · exact absurd (hc.1 hf).symm hf
theorem any6_ints {n : Int} {l : List Stp} (h1 : 1 ≤ n) (h6 : n ≤ 6) (h : ckWalk n none6 l = 0) : any6 (behAll none6 l) = (ints n).any (behAll none6 l) := by
  have hh : ∀ i : Int, n ≤ i → behAll none6 l i = false := fun i hi => behAll_high h hi
  generalize behAll none6 l = f at hh
  have : n = 1 ∨ n = 2 ∨ n = 3 ∨ n = 4 ∨ n = 5 ∨ n = 6 := by omega
  unfold any6
  rcases this with rfl | rfl | rfl | rfl | rfl | rfl
  · rw [hh 1 (by omega), hh 2 (by omega), hh 3 (by omega), hh 4 (by omega), hh 5 (by omega)]; rfl
  · rw [hh 2 (by omega), hh 3 (by omega), hh 4 (by omega), hh 5 (by omega)]; rfl
  · rw [hh 3 (by omega), hh 4 (by omega), hh 5 (by omega)]; rfl
  · rw [hh 4 (by omega), hh 5 (by omega)]; rfl
  · rw [hh 5 (by omega)]; rfl
  · simp [ints, List.range, List.range.loop, Bool.or_false]
theorem hasB_ints (n : Int) (f : Int → Bool) : hasB n.toNat f false = (ints n).any (fun a => !f a) := by
  unfold hasB ints
  rw [List.any_map]
  congr 1
  funext i
  show (f i == false) = !f (Int.ofNat i)
  cases f (Int.ofNat i) <;> rfl
end Go.Proofs.YtlnonmmaknhppaaGreatDoor
