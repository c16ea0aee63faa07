/- Steps of the proof: FOps, FOpT, FCptP, FMak, FCpt0, FCpt1, FCpt2, FCpt3, FApi, FFloor, FCeilP, FAwk, FRefS, FCmpF, FSumR, FOpsR, FSumsP, UBnd, URf1, URf2. No conditions. -/
import Derived.Laws.EntriesVeiled
import Derived.Test.YtmndcdjcodfchaaGreatDoorZUB1
import Derived.Test.YtmndcdjcodfchaaGreatDoorZUB2
import Derived.Test.YtmndcdjcodfchaaGreatDoorZUB3
import Derived.Test.YtmndcdjcodfchaaGreatDoorZUB4
import Derived.Test.YtmndcdjcodfchaaGreatDoorZUB5
import Derived.Test.YtmndcdjcodfchaaGreatDoorZUB6
namespace Go.Proofs.YtmndcdjcodfchaaGreatDoor
open Go.RowKit
def OpOk (x : Num) (w : World) (e : Ending) (w' : World) : Prop := ∃ z, e = .returned (.tuple #[z, .int .i64 0]) ∧ NumV w' z x ∧ NewN w.heap.size z ∧ Ext w w'
set_option maxHeartbeats 8000000 in
set_option maxRecDepth 100000 in
theorem op0_any (x y : Num) (v u : Value) (w : World) (hv : NumV w v x) (hu : NumV w u y) (hx : LenN 40 x) (hy : LenN 40 y) :
    Calls Tryz.prog 149 #[v, u] w (OpOk (sumN x y) w) := by
  have HV := Lib.hid hv
  have HU := Lib.hid hu
  have HLX := Lib.hid hx
  have HLY := Lib.hid hy
  obtain ⟨ta, tc, ba, bc, rfl, h1, h2⟩ := hv
  obtain ⟨ua, uc, va, vc, rfl, h3, h4⟩ := hu
  obtain ⟨s, t, d⟩ := x
  obtain ⟨r, p, q⟩ := y
  obtain ⟨l1, l2⟩ := hx
  obtain ⟨l3, l4⟩ := hy
  dsimp only at h1 h2 h3 h4 l1 l2 l3 l4 ⊢
  have HS := Lib.hid (fun W (hW : Ext w W) => sum_any (s, t, d) (r, p, q) _ _ W (HV.out.ext hW) (HU.out.ext hW) HLX.out HLY.out)
  generalize sumN (s, t, d) (r, p, q) = SN at *
  clear h1 h2 h3 h4
  have E : Ext w (((w.alloc (.cells #[.bool s, (.slice ta (toB 1000000000 t).length tc), (.slice ba (toB 1000000000 d).length bc)] 111)).alloc (.cells #[.bool r, (.slice ua (toB 1000000000 p).length uc), (.slice va (toB 1000000000 q).length vc)] 111)).alloc (.cells #[.bool false, .slice none 0 0, .slice none 0 0] 111)) := extA
  have A : Num3 w.heap.size (((w.alloc (.cells #[.bool s, (.slice ta (toB 1000000000 t).length tc), (.slice ba (toB 1000000000 d).length bc)] 111)).alloc (.cells #[.bool r, (.slice ua (toB 1000000000 p).length uc), (.slice va (toB 1000000000 q).length vc)] 111)).alloc (.cells #[.bool false, .slice none 0 0, .slice none 0 0] 111)) (.bool s) (.slice ta (toB 1000000000 t).length tc) (.slice ba (toB 1000000000 d).length bc) := ⟨by go_simp, by go_simp, by go_simp, by go_simp, by go_simp, by go_simp⟩
  have B : Num3 (w.heap.size + 1) (((w.alloc (.cells #[.bool s, (.slice ta (toB 1000000000 t).length tc), (.slice ba (toB 1000000000 d).length bc)] 111)).alloc (.cells #[.bool r, (.slice ua (toB 1000000000 p).length uc), (.slice va (toB 1000000000 q).length vc)] 111)).alloc (.cells #[.bool false, .slice none 0 0, .slice none 0 0] 111)) (.bool r) (.slice ua (toB 1000000000 p).length uc) (.slice va (toB 1000000000 q).length vc) := ⟨by go_simp, by go_simp, by go_simp, by go_simp, by go_simp, by go_simp⟩
  have R : Num3 (w.heap.size + 1 + 1) (((w.alloc (.cells #[.bool s, (.slice ta (toB 1000000000 t).length tc), (.slice ba (toB 1000000000 d).length bc)] 111)).alloc (.cells #[.bool r, (.slice ua (toB 1000000000 p).length uc), (.slice va (toB 1000000000 q).length vc)] 111)).alloc (.cells #[.bool false, .slice none 0 0, .slice none 0 0] 111)) (.bool false) (.slice none 0 0) (.slice none 0 0) := ⟨by go_simp, by go_simp, by go_simp, by go_simp, by go_simp, by go_simp⟩
  go_enter Tryz.func149, Tryz.ntmps149
  go_wp2_with fail
  generalize (((w.alloc (.cells #[.bool s, (.slice ta (toB 1000000000 t).length tc), (.slice ba (toB 1000000000 d).length bc)] 111)).alloc (.cells #[.bool r, (.slice ua (toB 1000000000 p).length uc), (.slice va (toB 1000000000 q).length vc)] 111)).alloc (.cells #[.bool false, .slice none 0 0, .slice none 0 0] 111)) = W at E A B R ⊢
  refine (HS.out _ E).mono ?_
  rintro e w4 ⟨z, rfl, hz, hn, hE⟩
  have hz0 : w.heap.size + 1 + 1 < W.heap.size := cell_lt R.c0
  replace R := R.ext hE
  replace E := E.trans hE
  clear hE
  obtain ⟨za, zc, ya, yc, rfl, k1, k2⟩ := hz
  have HZ := Lib.hid (NumV.set (c := w.heap.size + 1 + 1) (o := 2) (u := .slice ya (toB 1000000000 SN.2.2).length yc) (NumV.set (c := w.heap.size + 1 + 1) (o := 1) (u := .slice za (toB 1000000000 SN.2.1).length zc) (NumV.set (c := w.heap.size + 1 + 1) (o := 0) (u := .bool SN.1) ⟨za, zc, ya, yc, rfl, k1, k2⟩ hn hz0) hn hz0) hn hz0)
  obtain ⟨c0, c1, c2, f0, f1, f2⟩ := R
  have HNN := Lib.hid (hn _ _ _ _ _ _ _ rfl)
  clear k1 k2 hn A B
  go_wp2_with fail
  refine bodyPost_ret (v := .tuple #[.agg #[.bool SN.1, .slice za (toB 1000000000 SN.2.1).length zc, .slice ya (toB 1000000000 SN.2.2).length yc], .int .i64 0]) (by rw [results_cell_tmp1 rfl]; go_simp) rfl ?_
  exact ⟨_, rfl, HZ.out, newN_mk (fun hl z hz => by have := (HNN.out.1 hl z hz); omega) (fun hl z hz => by have := (HNN.out.2 hl z hz); omega), extA⟩
set_option maxHeartbeats 8000000 in
set_option maxRecDepth 100000 in
theorem op2_any (x y : Num) (v u : Value) (w : World) (hv : NumV w v x) (hu : NumV w u y) (hx : LenN 40 x) (hy : LenN 40 y) :
    Calls Tryz.prog 151 #[v, u] w (OpOk (mulN x y) w) := by
  have HV := Lib.hid hv
  have HU := Lib.hid hu
  have HLX := Lib.hid hx
  have HLY := Lib.hid hy
  obtain ⟨ta, tc, ba, bc, rfl, h1, h2⟩ := hv
  obtain ⟨ua, uc, va, vc, rfl, h3, h4⟩ := hu
  obtain ⟨s, t, d⟩ := x
  obtain ⟨r, p, q⟩ := y
  obtain ⟨l1, l2⟩ := hx
  obtain ⟨l3, l4⟩ := hy
  dsimp only at h1 h2 h3 h4 l1 l2 l3 l4 ⊢
  have HT1 := Lib.hid (fun W (hW : Ext w W) => (times_any t p _ _ ta ua tc uc W rfl rfl (by omega) (by omega) (h1.ext hW) (h3.ext hW)).mono fun _ _ h => h.newB)
  have HT2 := Lib.hid (fun W (hW : Ext w W) => (times_any d q _ _ ba va bc vc W rfl rfl (by omega) (by omega) (h2.ext hW) (h4.ext hW)).mono fun _ _ h => h.newB)
  have HSN := Lib.hid (show (mulN (s, t, d) (r, p, q)) = (s != r, t * p, d * q) from rfl)
  generalize (mulN (s, t, d) (r, p, q)) = SN at *
  generalize t * p = X1 at *
  generalize d * q = X2 at *
  clear h1 h2 h3 h4
  have E : Ext w (((w.alloc (.cells #[.bool s, (.slice ta (toB 1000000000 t).length tc), (.slice ba (toB 1000000000 d).length bc)] 111)).alloc (.cells #[.bool r, (.slice ua (toB 1000000000 p).length uc), (.slice va (toB 1000000000 q).length vc)] 111)).alloc (.cells #[.bool false, .slice none 0 0, .slice none 0 0] 111)) := extA
  have A : Num3 w.heap.size (((w.alloc (.cells #[.bool s, (.slice ta (toB 1000000000 t).length tc), (.slice ba (toB 1000000000 d).length bc)] 111)).alloc (.cells #[.bool r, (.slice ua (toB 1000000000 p).length uc), (.slice va (toB 1000000000 q).length vc)] 111)).alloc (.cells #[.bool false, .slice none 0 0, .slice none 0 0] 111)) (.bool s) (.slice ta (toB 1000000000 t).length tc) (.slice ba (toB 1000000000 d).length bc) := ⟨by go_simp, by go_simp, by go_simp, by go_simp, by go_simp, by go_simp⟩
  have B : Num3 (w.heap.size + 1) (((w.alloc (.cells #[.bool s, (.slice ta (toB 1000000000 t).length tc), (.slice ba (toB 1000000000 d).length bc)] 111)).alloc (.cells #[.bool r, (.slice ua (toB 1000000000 p).length uc), (.slice va (toB 1000000000 q).length vc)] 111)).alloc (.cells #[.bool false, .slice none 0 0, .slice none 0 0] 111)) (.bool r) (.slice ua (toB 1000000000 p).length uc) (.slice va (toB 1000000000 q).length vc) := ⟨by go_simp, by go_simp, by go_simp, by go_simp, by go_simp, by go_simp⟩
  have R : Num3 (w.heap.size + 1 + 1) (((w.alloc (.cells #[.bool s, (.slice ta (toB 1000000000 t).length tc), (.slice ba (toB 1000000000 d).length bc)] 111)).alloc (.cells #[.bool r, (.slice ua (toB 1000000000 p).length uc), (.slice va (toB 1000000000 q).length vc)] 111)).alloc (.cells #[.bool false, .slice none 0 0, .slice none 0 0] 111)) (.bool false) (.slice none 0 0) (.slice none 0 0) := ⟨by go_simp, by go_simp, by go_simp, by go_simp, by go_simp, by go_simp⟩
  go_enter Tryz.func151, Tryz.ntmps151
  go_wp2_with fail
  generalize (((w.alloc (.cells #[.bool s, (.slice ta (toB 1000000000 t).length tc), (.slice ba (toB 1000000000 d).length bc)] 111)).alloc (.cells #[.bool r, (.slice ua (toB 1000000000 p).length uc), (.slice va (toB 1000000000 q).length vc)] 111)).alloc (.cells #[.bool false, .slice none 0 0, .slice none 0 0] 111)) = W at E A B R ⊢
  have hdr : Ext W W.drew := extA
  replace A := A.ext hdr
  replace B := B.ext hdr
  replace R := R.ext hdr
  replace E := E.trans hdr
  have hS : W.drew.cell? ⟨w.heap.size, 0, none⟩ = some (.bool s) ∧ W.drew.cell? ⟨w.heap.size, 1, none⟩ = some (.slice ta (toB 1000000000 t).length tc) ∧ W.drew.cell? ⟨w.heap.size, 2, none⟩ = some (.slice ba (toB 1000000000 d).length bc) ∧ W.drew.cell? ⟨w.heap.size + 1, 0, none⟩ = some (.bool r) ∧ W.drew.cell? ⟨w.heap.size + 1, 1, none⟩ = some (.slice ua (toB 1000000000 p).length uc) ∧ W.drew.cell? ⟨w.heap.size + 1, 2, none⟩ = some (.slice va (toB 1000000000 q).length vc) := ⟨A.c0, A.c1, A.c2, B.c0, B.c1, B.c2⟩
  refine wp_region_heldE 16 (fun w' => w'.cell? ⟨w.heap.size, 0, none⟩ = some (.bool s) ∧ w'.cell? ⟨w.heap.size, 1, none⟩ = some (.slice ta (toB 1000000000 t).length tc) ∧ w'.cell? ⟨w.heap.size, 2, none⟩ = some (.slice ba (toB 1000000000 d).length bc) ∧ w'.cell? ⟨w.heap.size + 1, 0, none⟩ = some (.bool r) ∧ w'.cell? ⟨w.heap.size + 1, 1, none⟩ = some (.slice ua (toB 1000000000 p).length uc) ∧ w'.cell? ⟨w.heap.size + 1, 2, none⟩ = some (.slice va (toB 1000000000 q).length vc)) (by kernel_rfl) ?_
  clear hdr
  generalize W.drew = W at E A B R hS ⊢
  have hz0 : w.heap.size + 1 + 1 < W.heap.size := cell_lt R.c0
  ((refine eTk 0 ?_); (refine eTk 1 ?_); (refine eTk 2 ?_); (refine eTk 3 ?_); (refine eTk 4 ?_); (refine eTk 5 ?_); (refine eTk 6 ?_); (refine eTk 7 ?_); (refine eTk 8 ?_); (refine eTk 10 ?_); (refine eTk 11 ?_); (refine eTk 12 ?_); (refine eTk 13 ?_))
  (refine wpAnyE_one (i := 9) (o := ?_) ?_ (by kernel_rfl) (fun K hK => ?_); rotate_left; (focus ((simp only [List.getElem?_toArray, List.getElem?_cons_succ, List.getElem?_cons_zero]; exact rfl))); go_simp; go_at_call 103; refine (HT1.out _ E).mono ?_; rintro e w1 ⟨xa, xc, rfl, hx, hxn, hE⟩; go_wp2_with fail; refine hK.out _ _ ?_ (fun hHeld => ?_); rotate_left; clear hK K; (try simp only [Act.put, List.setIfInBounds_toArray, List.set_cons_zero, List.set_cons_succ]))
  rotate_left
  · exact ⟨hE.cell hS.1, hE.cell hS.2.1, hE.cell hS.2.2.1, hE.cell hS.2.2.2.1, hE.cell hS.2.2.2.2.1, hE.cell hS.2.2.2.2.2⟩
  replace A := A.ext hE
  replace B := B.ext hE
  replace R := R.ext hE
  replace E := E.trans hE
  replace hS : w1.cell? ⟨w.heap.size, 0, none⟩ = some (.bool s) ∧ w1.cell? ⟨w.heap.size, 1, none⟩ = some (.slice ta (toB 1000000000 t).length tc) ∧ w1.cell? ⟨w.heap.size, 2, none⟩ = some (.slice ba (toB 1000000000 d).length bc) ∧ w1.cell? ⟨w.heap.size + 1, 0, none⟩ = some (.bool r) ∧ w1.cell? ⟨w.heap.size + 1, 1, none⟩ = some (.slice ua (toB 1000000000 p).length uc) ∧ w1.cell? ⟨w.heap.size + 1, 2, none⟩ = some (.slice va (toB 1000000000 q).length vc) := ⟨hE.cell hS.1, hE.cell hS.2.1, hE.cell hS.2.2.1, hE.cell hS.2.2.2.1, hE.cell hS.2.2.2.2.1, hE.cell hS.2.2.2.2.2⟩
  have hSZ1 : Hid (w.heap.size + 1 + 1 < w1.heap.size) := cell_lt R.c0
  have HX := Lib.hid hx
  have HXN : Hid (∀ z, xa = some z → w.heap.size + 1 + 1 < z.block) := fun z hz => by have := hxn z hz; omega
  clear hE hHeld hx hxn
  (refine wpAnyE_one (i := 14) (o := ?_) ?_ (by kernel_rfl) (fun K hK => ?_); rotate_left; (focus ((simp only [List.getElem?_toArray, List.getElem?_cons_succ, List.getElem?_cons_zero]; exact rfl))); go_simp; go_at_call 103; refine (HT2.out _ E).mono ?_; rintro e w2 ⟨ya, yc, rfl, hy, hyn, hE⟩; go_wp2_with fail; refine hK.out _ _ ?_ (fun hHeld => ?_); rotate_left; clear hK K; (try simp only [Act.put, List.setIfInBounds_toArray, List.set_cons_zero, List.set_cons_succ]))
  rotate_left
  · exact ⟨hE.cell hS.1, hE.cell hS.2.1, hE.cell hS.2.2.1, hE.cell hS.2.2.2.1, hE.cell hS.2.2.2.2.1, hE.cell hS.2.2.2.2.2⟩
  replace A := A.ext hE
  replace B := B.ext hE
  replace R := R.ext hE
  replace E := E.trans hE
  replace hS : w2.cell? ⟨w.heap.size, 0, none⟩ = some (.bool s) ∧ w2.cell? ⟨w.heap.size, 1, none⟩ = some (.slice ta (toB 1000000000 t).length tc) ∧ w2.cell? ⟨w.heap.size, 2, none⟩ = some (.slice ba (toB 1000000000 d).length bc) ∧ w2.cell? ⟨w.heap.size + 1, 0, none⟩ = some (.bool r) ∧ w2.cell? ⟨w.heap.size + 1, 1, none⟩ = some (.slice ua (toB 1000000000 p).length uc) ∧ w2.cell? ⟨w.heap.size + 1, 2, none⟩ = some (.slice va (toB 1000000000 q).length vc) := ⟨hE.cell hS.1, hE.cell hS.2.1, hE.cell hS.2.2.1, hE.cell hS.2.2.2.1, hE.cell hS.2.2.2.2.1, hE.cell hS.2.2.2.2.2⟩
  have hz1 : w.heap.size + 1 + 1 < w1.heap.size := hSZ1.out
  replace HX := Lib.hid (HX.out.ext hE)
  have HY := Lib.hid hy
  have HYN : Hid (∀ z, ya = some z → w.heap.size + 1 + 1 < z.block) := fun z hz => by have := hyn z hz; omega
  clear hE hHeld hy hyn A B
  obtain ⟨c0, c1, c2, f0, f1, f2⟩ := R
  (refine eTk 15 ?_)
  (refine wpAnyE_free (i := 16) (o := ?_) ?_ (by kernel_rfl) (by kernel_rfl) (fun K hK => ?_); rotate_left; (focus ((simp only [List.getElem?_toArray, List.getElem?_cons_succ, List.getElem?_cons_zero]; exact rfl))); go_simp; refine hK.out _ _ ?_; clear hK K; (try simp only [Act.put, List.setIfInBounds_toArray, List.set_cons_zero, List.set_cons_succ]))
  ((refine ePu 17 ?_))
  refine wpAnyE_done (by kernel_rfl) ?_ _
  go_wp2_with fail
  refine bodyPost_ret (v := .tuple #[.agg #[.bool (!(s == r)), .slice xa (toB 1000000000 X1).length xc, .slice ya (toB 1000000000 X2).length yc], .int .i64 0]) (by rw [results_cell_tmp1 rfl]; go_simp) rfl ?_
  refine ⟨_, rfl, ?_, newN_mk (fun hl z hz => by have := HXN.out z hz; omega) (fun hl z hz => by have := HYN.out z hz; omega), extA⟩
  rw [HSN.out]
  refine ⟨xa, xc, ya, yc, rfl, ?_, ?_⟩
  · exact ((HX.out.set (fun z hz => Nat.ne_of_gt (HXN.out z hz))).set (fun z hz => Nat.ne_of_gt (HXN.out z hz))).set (fun z hz => Nat.ne_of_gt (HXN.out z hz))
  · exact ((HY.out.set (fun z hz => Nat.ne_of_gt (HYN.out z hz))).set (fun z hz => Nat.ne_of_gt (HYN.out z hz))).set (fun z hz => Nat.ne_of_gt (HYN.out z hz))
end Go.Proofs.YtmndcdjcodfchaaGreatDoor
namespace Go.Proofs.YtmndcdjcodfchaaGreatDoor
open Go.RowKit
theorem operations_any (w : World) :
    Calls Tryz.prog 127 #[] w fun e w' => e = .returned (.agg #[.func (.func 149) #[] #[], .func (.func 150) #[] #[], .func (.func 151) #[] #[], .func (.func 152) #[] #[]]) ∧ Ext w w' := by
  go_enter Tryz.func127, Tryz.ntmps127
  go_wp2_with fail
  trace_state
  refine bodyPost_ret (v := .agg #[.func (.func 149) #[] #[], .func (.func 150) #[] #[], .func (.func 151) #[] #[], .func (.func 152) #[] #[]]) (by rw [results_cell1 rfl]; go_simp) rfl ?_
  exact ⟨rfl, extA⟩
end Go.Proofs.YtmndcdjcodfchaaGreatDoor
namespace Go.Proofs.YtmndcdjcodfchaaGreatDoor
open Go.RowKit
theorem numOf_len {a : Txt} (h : fracE a = 0) : LenN 40 (numOf a) ∧ (numOf a).2.2 ≠ 0 := by
  obtain ⟨h1, h2, h3, h4, h5, _⟩ := frac_parts h
  have lim : ∀ n, n < 10 ^ 60 → (toB 1000000000 n).length ≤ 40 := fun n hn => toB_len (by omega) 40 (by omega)
  refine ⟨⟨?_, lim _ h5⟩, by show decV (lowS a) ≠ 0; omega⟩
  have e := intV_abs (topS a)
  exact lim _ (by show decV (bareS (topS a)) < _; rw [← e]; exact h2)
theorem lt_len {z k : Nat} (h : (toB 1000000000 z).length ≤ k) : z < 1000000000 ^ k := by
  have h1 := valB_lt (okB_toB (B := 1000000000) (by omega) z)
  rw [valB_toB (by omega)] at h1
  exact Nat.lt_of_lt_of_le h1 (Nat.pow_le_pow_right (by omega) h)
theorem sumN_len {x y : Num} (hx : LenN 40 x) (hy : LenN 40 y) : LenN 90 (sumN x y) := by
  obtain ⟨s, t, d⟩ := x
  obtain ⟨r, p, q⟩ := y
  have h1 := lt_len (mul_len hx.1 hy.2)
  have h2 := lt_len (mul_len hy.1 hx.2)
  have h3 := lt_len (mul_len hx.2 hy.2)
  have e : (1000000000 : Nat) ^ (40 + 40) * 2 ≤ 1000000000 ^ 90 := by
    have : (1000000000 : Nat) ^ 90 = 1000000000 ^ (40 + 40) * 1000000000 ^ 10 := by rw [← Nat.pow_add]
    rw [this]
    exact Nat.mul_le_mul_left _ (by omega)
  dsimp only at h1 h2 h3
  unfold sumN LenN
  dsimp only
  split
  · exact ⟨toB_len (by omega) 90 (by dsimp only; omega), toB_len (by omega) 90 (by dsimp only; omega)⟩
  · split
    · exact ⟨toB_len (by omega) 90 (by dsimp only; omega), toB_len (by omega) 90 (by dsimp only; omega)⟩
    · exact ⟨toB_len (by omega) 90 (by dsimp only; omega), toB_len (by omega) 90 (by dsimp only; omega)⟩
theorem mulN_len {x y : Num} (hx : LenN 40 x) (hy : LenN 40 y) : LenN 90 (mulN x y) :=
  ⟨Nat.le_trans (mul_len hx.1 hy.1) (by omega), Nat.le_trans (mul_len hx.2 hy.2) (by omega)⟩
def ResPost (r : Res) (w : World) (e : Ending) (w' : World) : Prop := e = .returned (.tuple #[txt r.1, .int .i64 (r.2 : Nat)]) ∧ Ext w w'
theorem bothE_zero {a b : Txt} (ha : fracE a = 0) (hb : fracE b = 0) : bothE a b = 0 := by unfold bothE; rw [if_pos ha, hb]
theorem bothE_left {a b : Txt} (ha : fracE a ≠ 0) : bothE a b = fracE a := by unfold bothE; rw [if_neg ha]
theorem bothE_right {a b : Txt} (ha : fracE a = 0) : bothE a b = fracE b := by unfold bothE; rw [if_pos ha]
theorem add_res {a b : Txt} : (fracE a ≠ 0 → addS a b = ([], fracE a)) ∧ (fracE a = 0 → fracE b ≠ 0 → addS a b = ([], fracE b)) ∧ (fracE a = 0 → fracE b = 0 → addS a b = resQ (fracQ a + fracQ b)) := by
  unfold addS ifOk badR
  refine ⟨fun h => ?_, fun h k => ?_, fun h k => ?_⟩
  · rw [bothE_left h, if_neg h]
  · rw [bothE_right h, if_neg k]
  · rw [bothE_zero h k, if_pos rfl]
theorem mul_res {a b : Txt} : (fracE a ≠ 0 → mulS a b = ([], fracE a)) ∧ (fracE a = 0 → fracE b ≠ 0 → mulS a b = ([], fracE b)) ∧ (fracE a = 0 → fracE b = 0 → mulS a b = resQ (fracQ a * fracQ b)) := by
  unfold mulS ifOk badR
  refine ⟨fun h => ?_, fun h k => ?_, fun h k => ?_⟩
  · rw [bothE_left h, if_neg h]
  · rw [bothE_right h, if_neg k]
  · rw [bothE_zero h k, if_pos rfl]
theorem op_index0 (W : World) : (Instr.index 161 (.agg #[.func (.func 149) #[] #[], .func (.func 150) #[] #[], .func (.func 151) #[] #[], .func (.func 152) #[] #[]]) (.int .i64 0)).run Tryz.prog W = .ok (.agg #[.func (.func 149) #[] #[]]) W := by
  simp [Instr.index, go_sem]
theorem op_index2 (W : World) : (Instr.index 161 (.agg #[.func (.func 149) #[] #[], .func (.func 150) #[] #[], .func (.func 151) #[] #[], .func (.func 152) #[] #[]]) (.int .i64 2)).run Tryz.prog W = .ok (.agg #[.func (.func 151) #[] #[]]) W := by
  simp [Instr.index, go_sem]
theorem op_field (W : World) (f : Nat) : (Instr.field 160 (.agg #[.func (.func f) #[] #[]]) 0).run Tryz.prog W = .ok (.func (.func f) #[] #[]) W := by
  simp [Instr.field, asAgg, go_sem]
end Go.Proofs.YtmndcdjcodfchaaGreatDoor
namespace Go.Proofs.YtmndcdjcodfchaaGreatDoor
open Go.RowKit
open Go.Lib (decDigits itoa)
set_option maxHeartbeats 4000000 in
theorem whole_any (n : Int) (w : World) (hG : Glob w) (h1 : -9223372036854775808 ≤ n) (h2 : n ≤ 9223372036854775807) :
    Calls Tryz.prog 53 #[.int .i64 n] w fun e w' => e = .returned (txt (itoa n)) ∧ Ext w w' := by
  have HT := Lib.hid (Itoa_any n w h1 h2 hG.tab)
  clear hG
  go_enter Tryz.func53, Tryz.ntmps53
  go_wp2_with (go_at_call 81; refine HT.out.mono ?_; rintro e w1 ⟨rfl, hE⟩)
  go_ret
  exact ⟨rfl, hE⟩
end Go.Proofs.YtmndcdjcodfchaaGreatDoor
namespace Go.Proofs.YtmndcdjcodfchaaGreatDoor
open Go.RowKit
set_option maxHeartbeats 16000000 in
set_option maxRecDepth 100000 in
theorem computed0_any (a b : Txt) (w : World) (hG : Glob w) (ha : a.length ≤ 400) (hb : b.length ≤ 400) :
    Calls Tryz.prog 102 #[.int .i64 0, txt a, txt b] w (ResPost (addS a b) w) := by
  have HG := Lib.hid hG
  have HPA := Lib.hid (fun W (hW : Ext w W) => parsed_any a W (hG.ext hW) ha)
  have HPB := Lib.hid (fun W (hW : Ext w W) => parsed_any b W (hG.ext hW) hb)
  have HRES := Lib.hid (@add_res a b)
  clear hG
  go_enter Tryz.func102, Tryz.ntmps102
  go_wp2_with fail
  refine (HPA.out _ (Ext.refl _)).mono ?_
  rintro e w1 ⟨v1, rfl, ⟨s1, ta, tn, tc, ba, bn, bc, rfl⟩, hn1, hE⟩
  have HN1 := Lib.hid hn1
  clear hn1 HPA
  by_cases ea : fracE a = 0
  rotate_left
  · have HR := Lib.hid (HRES.out.1 ea)
    have hne : (((fracE a : Nat) : Int) != 0) = true := by rw [bne_iff_ne]; omega
    clear HN1 HPB HRES
    generalize fracE a = n at *
    go_wp2_with fail
    go_ret2
    exact ⟨by rw [HR.out]; rfl, extA⟩
  have HNA := Lib.hid (HN1.out ea)
  rw [ea]
  have HEA := Lib.hid ea
  clear ea HN1
  have EV : Ext w1 (w1.alloc (.cells #[.bool s1, .slice ta tn tc, .slice ba bn bc] 111)) := extA
  have X : Num3 w1.heap.size (w1.alloc (.cells #[.bool s1, .slice ta tn tc, .slice ba bn bc] 111)) (.bool s1) (.slice ta tn tc) (.slice ba bn bc) := ⟨by go_simp, by go_simp, by go_simp, by go_simp, by go_simp, by go_simp⟩
  have E := hE.trans EV
  replace HNA := Lib.hid (HNA.out.ext EV)
  clear EV hE
  go_wp2_with fail
  obtain ⟨xb, hxb⟩ : ∃ xb, xb = w1.heap.size := ⟨_, rfl⟩
  rw [← hxb] at X ⊢
  clear hxb
  generalize (w1.alloc (.cells #[.bool s1, .slice ta tn tc, .slice ba bn bc] 111)) = W1 at X E HNA ⊢
  refine (HPB.out _ E).mono ?_
  rintro e w3 ⟨v2, rfl, ⟨s2, ua, un, uc, va, vn, vc, rfl⟩, hn2, hE⟩
  replace X := X.ext hE
  replace E := E.trans hE
  replace HNA := Lib.hid (HNA.out.ext hE)
  have HN2 := Lib.hid hn2
  clear hn2 HPB hE
  by_cases eb : fracE b = 0
  rotate_left
  · have HR := Lib.hid (HRES.out.2.1 HEA.out eb)
    have hne : (((fracE b : Nat) : Int) != 0) = true := by rw [bne_iff_ne]; omega
    clear HN2 HRES HEA
    generalize fracE b = n at *
    go_wp2_with fail
    go_ret2
    exact ⟨by rw [HR.out]; rfl, extA⟩
  have HNB := Lib.hid (HN2.out eb)
  rw [eb]
  have HEB := Lib.hid eb
  clear eb HN2
  have EV : Ext w3 (w3.alloc (.cells #[.bool s2, .slice ua un uc, .slice va vn vc] 111)) := extA
  have Y : Num3 w3.heap.size (w3.alloc (.cells #[.bool s2, .slice ua un uc, .slice va vn vc] 111)) (.bool s2) (.slice ua un uc) (.slice va vn vc) := ⟨by go_simp, by go_simp, by go_simp, by go_simp, by go_simp, by go_simp⟩
  replace X := X.ext EV
  replace E := E.trans EV
  replace HNA := Lib.hid (HNA.out.ext EV)
  replace HNB := Lib.hid (HNB.out.ext EV)
  clear EV
  go_wp2_with fail
  obtain ⟨yb, hyb⟩ : ∃ yb, yb = w3.heap.size := ⟨_, rfl⟩
  rw [← hyb] at Y ⊢
  clear hyb
  generalize (w3.alloc (.cells #[.bool s2, .slice ua un uc, .slice va vn vc] 111)) = W3 at X Y E HNA HNB ⊢
  have hix := op_index0
  have hfi := op_field
  have hxa := (numOf_len HEA.out).1
  have hyb := (numOf_len HEB.out).1
  go_cut [11, 9] (fun n ev wx => ∃ nb z0 z1 zn zc z2 zm zd, n = .pointer (some ⟨nb, 0, none⟩) ∧ ev = .int .i64 0 ∧ Hid (Num3 nb wx (.bool z0) (.slice z1 zn zc) (.slice z2 zm zd)) ∧ Hid (NumV wx (.agg #[.bool z0, .slice z1 zn zc, .slice z2 zm zd]) (sumN (numOf a) (numOf b))) ∧ Ext w wx)
  case first =>
    have hdr : Ext W3 W3.drew := extA
    replace X := X.ext hdr
    replace Y := Y.ext hdr
    replace E := E.trans hdr
    replace HNA := Lib.hid (HNA.out.ext hdr)
    replace HNB := Lib.hid (HNB.out.ext hdr)
    have hS : W3.drew.cell? ⟨xb, 0, none⟩ = some (.bool s1) ∧ W3.drew.cell? ⟨xb, 1, none⟩ = some (.slice ta tn tc) ∧ W3.drew.cell? ⟨xb, 2, none⟩ = some (.slice ba bn bc) ∧ W3.drew.cell? ⟨yb, 0, none⟩ = some (.bool s2) ∧ W3.drew.cell? ⟨yb, 1, none⟩ = some (.slice ua un uc) ∧ W3.drew.cell? ⟨yb, 2, none⟩ = some (.slice va vn vc) := ⟨X.c0, X.c1, X.c2, Y.c0, Y.c1, Y.c2⟩
    refine wp_region_heldE 11 (fun w' => w'.cell? ⟨xb, 0, none⟩ = some (.bool s1) ∧ w'.cell? ⟨xb, 1, none⟩ = some (.slice ta tn tc) ∧ w'.cell? ⟨xb, 2, none⟩ = some (.slice ba bn bc) ∧ w'.cell? ⟨yb, 0, none⟩ = some (.bool s2) ∧ w'.cell? ⟨yb, 1, none⟩ = some (.slice ua un uc) ∧ w'.cell? ⟨yb, 2, none⟩ = some (.slice va vn vc)) (by kernel_rfl) ?_
    clear hdr X Y
    generalize W3.drew = W4 at E HNA HNB hS ⊢
    ((refine eTk 1 ?_); (refine eTk 4 ?_); (refine eTk 5 ?_))
    refine wpAnyE_two (i := 0) (j := 10) (o := ?_) (p := ?_) ?_ ?_ (by kernel_rfl) (fun K hK => ?_) (fun K hK => ?_)
    rotate_left 2
    · simp only [List.getElem?_toArray, List.getElem?_cons_zero]; exact rfl
    · simp only [List.getElem?_toArray, List.getElem?_cons_succ, List.getElem?_cons_zero]; exact rfl
    · go_simp
      go_at_call 127
      refine (operations_any _).mono ?_
      rintro e w5 ⟨rfl, hE⟩
      go_wp2_with fail
      have hS5 : w5.cell? ⟨xb, 0, none⟩ = some (.bool s1) ∧ w5.cell? ⟨xb, 1, none⟩ = some (.slice ta tn tc) ∧ w5.cell? ⟨xb, 2, none⟩ = some (.slice ba bn bc) ∧ w5.cell? ⟨yb, 0, none⟩ = some (.bool s2) ∧ w5.cell? ⟨yb, 1, none⟩ = some (.slice ua un uc) ∧ w5.cell? ⟨yb, 2, none⟩ = some (.slice va vn vc) := ⟨hE.cell hS.1, hE.cell hS.2.1, hE.cell hS.2.2.1, hE.cell hS.2.2.2.1, hE.cell hS.2.2.2.2.1, hE.cell hS.2.2.2.2.2⟩
      refine hK.out _ _ hS5 (fun hHeld => ?_)
      clear hK K hHeld
      (try simp only [Act.put, List.setIfInBounds_toArray, List.set_cons_zero, List.set_cons_succ])
      replace E := E.trans hE
      replace HNA := Lib.hid (HNA.out.ext hE)
      replace HNB := Lib.hid (HNB.out.ext hE)
      clear hE hS
      ((refine eTk 2 ?_); (refine eTk 3 ?_))
      refine wpAnyE_two (i := 6) (j := 10) (o := ?_) (p := ?_) ?_ ?_ (by kernel_rfl) (fun K hK => ?_) (fun K hK => ?_)
      rotate_left 2
      · simp only [List.getElem?_toArray, List.getElem?_cons_succ, List.getElem?_cons_zero]; exact rfl
      · simp only [List.getElem?_toArray, List.getElem?_cons_succ, List.getElem?_cons_zero]; exact rfl
      · go_simp
        go_at_call 149
        refine (op0_any (numOf a) (numOf b) _ _ _ HNA.out HNB.out hxa hyb).mono ?_; rintro e w6 ⟨z, rfl, hz, hzn, hE⟩; obtain ⟨z1, zc, z2, zd, rfl, k1, k2⟩ := hz
        go_wp2_with fail
        have hS6 : w6.cell? ⟨xb, 0, none⟩ = some (.bool s1) ∧ w6.cell? ⟨xb, 1, none⟩ = some (.slice ta tn tc) ∧ w6.cell? ⟨xb, 2, none⟩ = some (.slice ba bn bc) ∧ w6.cell? ⟨yb, 0, none⟩ = some (.bool s2) ∧ w6.cell? ⟨yb, 1, none⟩ = some (.slice ua un uc) ∧ w6.cell? ⟨yb, 2, none⟩ = some (.slice va vn vc) := ⟨hE.cell hS5.1, hE.cell hS5.2.1, hE.cell hS5.2.2.1, hE.cell hS5.2.2.2.1, hE.cell hS5.2.2.2.2.1, hE.cell hS5.2.2.2.2.2⟩
        refine hK.out _ _ hS6 (fun hHeld => ?_)
        clear hK K hHeld hS5
        (try simp only [Act.put, List.setIfInBounds_toArray, List.set_cons_zero, List.set_cons_succ])
        ((refine ePu 7 ?_); (refine ePu 8 ?_); (refine ePu 9 ?_))
        have EA : Ext w6 (w6.alloc (.cells #[.bool false, .slice none 0 0, .slice none 0 0] 111)) := extA
        have N : Num3 w6.heap.size (w6.alloc (.cells #[.bool false, .slice none 0 0, .slice none 0 0] 111)) (.bool false) (.slice none 0 0) (.slice none 0 0) := ⟨by go_simp, by go_simp, by go_simp, by go_simp, by go_simp, by go_simp⟩
        (refine wpAnyE_one (i := 10) (o := ?_) ?_ (by kernel_rfl) (fun K hK => ?_); rotate_left; (focus ((simp only [List.getElem?_toArray, List.getElem?_cons_succ, List.getElem?_cons_zero]; exact rfl))); go_simp; refine hK.out _ _ ?_ (fun hHeld => ?_); rotate_left; clear hK K; (try simp only [Act.put, List.setIfInBounds_toArray, List.set_cons_zero, List.set_cons_succ]))
        rotate_left
        · exact ⟨EA.cell hS6.1, EA.cell hS6.2.1, EA.cell hS6.2.2.1, EA.cell hS6.2.2.2.1, EA.cell hS6.2.2.2.2.1, EA.cell hS6.2.2.2.2.2⟩
        obtain ⟨nb, hnb⟩ : ∃ nb, nb = w6.heap.size := ⟨_, rfl⟩
        rw [← hnb] at N ⊢
        have hnw : w6.heap.size ≤ nb := by omega
        have hww : w.heap.size ≤ nb := by have := (E.trans hE).size; omega
        have E6 := (E.trans hE).trans EA
        have HEA := Lib.hid EA
        clear EA hS6 hHeld hnb E hE
        generalize (w6.alloc (.cells #[.bool false, .slice none 0 0, .slice none 0 0] 111)) = W7 at N HEA E6 ⊢
        have HN := Lib.hid N
        obtain ⟨x0, x1, x2, g0, g1, g2⟩ := N
        (refine wpAnyE_free (i := 11) (o := ?_) ?_ (by kernel_rfl) (by kernel_rfl) (fun K hK => ?_); rotate_left; (focus ((simp only [List.getElem?_toArray, List.getElem?_cons_succ, List.getElem?_cons_zero]; exact rfl))); go_simp; refine hK.out _ _ ?_; clear hK K; (try simp only [Act.put, List.setIfInBounds_toArray, List.set_cons_zero, List.set_cons_succ]))
        ((refine ePu 12 ?_))
        refine wpAnyE_done (by kernel_rfl) ?_ _
        go_wp2_with fail
        go_meet
        refine ⟨nb, _, _, _, _, _, _, _, rfl, rfl, ((HN.out.set0 _).set1 _).set2 _, ?_, extA⟩
        exact NumV.ext ⟨z1, zc, z2, zd, rfl, k1, k2⟩ (((HEA.out.set hnw _).set hnw _).set hnw _)
      · go_simp
        have EA : Ext w5 (w5.alloc (.cells #[.bool false, .slice none 0 0, .slice none 0 0] 111)) := extA
        have N : Num3 w5.heap.size (w5.alloc (.cells #[.bool false, .slice none 0 0, .slice none 0 0] 111)) (.bool false) (.slice none 0 0) (.slice none 0 0) := ⟨by go_simp, by go_simp, by go_simp, by go_simp, by go_simp, by go_simp⟩
        have hSA : (w5.alloc (.cells #[.bool false, .slice none 0 0, .slice none 0 0] 111)).cell? ⟨xb, 0, none⟩ = some (.bool s1) ∧ (w5.alloc (.cells #[.bool false, .slice none 0 0, .slice none 0 0] 111)).cell? ⟨xb, 1, none⟩ = some (.slice ta tn tc) ∧ (w5.alloc (.cells #[.bool false, .slice none 0 0, .slice none 0 0] 111)).cell? ⟨xb, 2, none⟩ = some (.slice ba bn bc) ∧ (w5.alloc (.cells #[.bool false, .slice none 0 0, .slice none 0 0] 111)).cell? ⟨yb, 0, none⟩ = some (.bool s2) ∧ (w5.alloc (.cells #[.bool false, .slice none 0 0, .slice none 0 0] 111)).cell? ⟨yb, 1, none⟩ = some (.slice ua un uc) ∧ (w5.alloc (.cells #[.bool false, .slice none 0 0, .slice none 0 0] 111)).cell? ⟨yb, 2, none⟩ = some (.slice va vn vc) := ⟨EA.cell hS5.1, EA.cell hS5.2.1, EA.cell hS5.2.2.1, EA.cell hS5.2.2.2.1, EA.cell hS5.2.2.2.2.1, EA.cell hS5.2.2.2.2.2⟩
        refine hK.out _ _ hSA (fun hHeld => ?_)
        clear hK K hHeld hS5
        (try simp only [Act.put, List.setIfInBounds_toArray, List.set_cons_zero, List.set_cons_succ])
        obtain ⟨nb, hnb⟩ : ∃ nb, nb = w5.heap.size := ⟨_, rfl⟩
        rw [← hnb] at N ⊢
        have hww : w.heap.size ≤ nb := by have := E.size; omega
        replace E := E.trans EA
        replace HNA := Lib.hid (HNA.out.ext EA)
        replace HNB := Lib.hid (HNB.out.ext EA)
        clear EA hnb
        generalize (w5.alloc (.cells #[.bool false, .slice none 0 0, .slice none 0 0] 111)) = w5 at N hSA E HNA HNB ⊢
        (refine wpAnyE_one (i := 6) (o := ?_) ?_ (by kernel_rfl) (fun K hK => ?_); rotate_left; (focus ((simp only [List.getElem?_toArray, List.getElem?_cons_succ, List.getElem?_cons_zero]; exact rfl))); go_simp; go_at_call 149; refine (op0_any (numOf a) (numOf b) _ _ _ HNA.out HNB.out hxa hyb).mono ?_; rintro e w6 ⟨z, rfl, hz, hzn, hE⟩; obtain ⟨z1, zc, z2, zd, rfl, k1, k2⟩ := hz; go_wp2_with fail; refine hK.out _ _ ?_ (fun hHeld => ?_); rotate_left; clear hK K; (try simp only [Act.put, List.setIfInBounds_toArray, List.set_cons_zero, List.set_cons_succ]))
        rotate_left
        · exact ⟨hE.cell hSA.1, hE.cell hSA.2.1, hE.cell hSA.2.2.1, hE.cell hSA.2.2.2.1, hE.cell hSA.2.2.2.2.1, hE.cell hSA.2.2.2.2.2⟩
        have N6 := N.ext hE
        have hnl : nb < w5.heap.size := cell_lt N.c0
        have E6 := E.trans hE
        clear hSA N E hE
        ((refine ePu 7 ?_); (refine ePu 8 ?_); (refine ePu 9 ?_))
        clear hHeld
        have HN := Lib.hid N6
        obtain ⟨x0, x1, x2, g0, g1, g2⟩ := N6
        (refine wpAnyE_free (i := 11) (o := ?_) ?_ (by kernel_rfl) (by kernel_rfl) (fun K hK => ?_); rotate_left; (focus ((simp only [List.getElem?_toArray, List.getElem?_cons_succ, List.getElem?_cons_zero]; exact rfl))); go_simp; refine hK.out _ _ ?_; clear hK K; (try simp only [Act.put, List.setIfInBounds_toArray, List.set_cons_zero, List.set_cons_succ]))
        ((refine ePu 12 ?_))
        refine wpAnyE_done (by kernel_rfl) ?_ _
        go_wp2_with fail
        go_meet
        refine ⟨nb, _, _, _, _, _, _, _, rfl, rfl, ((HN.out.set0 _).set1 _).set2 _, ?_, extA⟩
        exact NumV.set (NumV.set (NumV.set ⟨z1, zc, z2, zd, rfl, k1, k2⟩ hzn hnl) hzn hnl) hzn hnl
    · go_simp
      have EA : Ext W4 (W4.alloc (.cells #[.bool false, .slice none 0 0, .slice none 0 0] 111)) := extA
      have N : Num3 W4.heap.size (W4.alloc (.cells #[.bool false, .slice none 0 0, .slice none 0 0] 111)) (.bool false) (.slice none 0 0) (.slice none 0 0) := ⟨by go_simp, by go_simp, by go_simp, by go_simp, by go_simp, by go_simp⟩
      have hSA : (W4.alloc (.cells #[.bool false, .slice none 0 0, .slice none 0 0] 111)).cell? ⟨xb, 0, none⟩ = some (.bool s1) ∧ (W4.alloc (.cells #[.bool false, .slice none 0 0, .slice none 0 0] 111)).cell? ⟨xb, 1, none⟩ = some (.slice ta tn tc) ∧ (W4.alloc (.cells #[.bool false, .slice none 0 0, .slice none 0 0] 111)).cell? ⟨xb, 2, none⟩ = some (.slice ba bn bc) ∧ (W4.alloc (.cells #[.bool false, .slice none 0 0, .slice none 0 0] 111)).cell? ⟨yb, 0, none⟩ = some (.bool s2) ∧ (W4.alloc (.cells #[.bool false, .slice none 0 0, .slice none 0 0] 111)).cell? ⟨yb, 1, none⟩ = some (.slice ua un uc) ∧ (W4.alloc (.cells #[.bool false, .slice none 0 0, .slice none 0 0] 111)).cell? ⟨yb, 2, none⟩ = some (.slice va vn vc) := ⟨EA.cell hS.1, EA.cell hS.2.1, EA.cell hS.2.2.1, EA.cell hS.2.2.2.1, EA.cell hS.2.2.2.2.1, EA.cell hS.2.2.2.2.2⟩
      refine hK.out _ _ hSA (fun hHeld => ?_)
      clear hK K hHeld hS
      (try simp only [Act.put, List.setIfInBounds_toArray, List.set_cons_zero, List.set_cons_succ])
      obtain ⟨nb, hnb⟩ : ∃ nb, nb = W4.heap.size := ⟨_, rfl⟩
      rw [← hnb] at N ⊢
      have hww : w.heap.size ≤ nb := by have := E.size; omega
      replace E := E.trans EA
      replace HNA := Lib.hid (HNA.out.ext EA)
      replace HNB := Lib.hid (HNB.out.ext EA)
      clear EA hnb
      generalize (W4.alloc (.cells #[.bool false, .slice none 0 0, .slice none 0 0] 111)) = W5 at N hSA E HNA HNB ⊢
      (refine wpAnyE_one (i := 0) (o := ?_) ?_ (by kernel_rfl) (fun K hK => ?_); rotate_left; (focus ((simp only [List.getElem?_toArray, List.getElem?_cons_zero]; exact rfl))); go_simp; go_at_call 127; refine (operations_any _).mono ?_; rintro e w5 ⟨rfl, hE⟩; go_wp2_with fail; refine hK.out _ _ ?_ (fun hHeld => ?_); rotate_left; clear hK K; (try simp only [Act.put, List.setIfInBounds_toArray, List.set_cons_zero, List.set_cons_succ]))
      rotate_left
      · exact ⟨hE.cell hSA.1, hE.cell hSA.2.1, hE.cell hSA.2.2.1, hE.cell hSA.2.2.2.1, hE.cell hSA.2.2.2.2.1, hE.cell hSA.2.2.2.2.2⟩
      replace hSA : w5.cell? ⟨xb, 0, none⟩ = some (.bool s1) ∧ w5.cell? ⟨xb, 1, none⟩ = some (.slice ta tn tc) ∧ w5.cell? ⟨xb, 2, none⟩ = some (.slice ba bn bc) ∧ w5.cell? ⟨yb, 0, none⟩ = some (.bool s2) ∧ w5.cell? ⟨yb, 1, none⟩ = some (.slice ua un uc) ∧ w5.cell? ⟨yb, 2, none⟩ = some (.slice va vn vc) := ⟨hE.cell hSA.1, hE.cell hSA.2.1, hE.cell hSA.2.2.1, hE.cell hSA.2.2.2.1, hE.cell hSA.2.2.2.2.1, hE.cell hSA.2.2.2.2.2⟩
      replace N := N.ext hE
      replace E := E.trans hE
      replace HNA := Lib.hid (HNA.out.ext hE)
      replace HNB := Lib.hid (HNB.out.ext hE)
      clear hE hHeld
      ((refine eTk 2 ?_); (refine eTk 3 ?_))
      (refine wpAnyE_one (i := 6) (o := ?_) ?_ (by kernel_rfl) (fun K hK => ?_); rotate_left; (focus ((simp only [List.getElem?_toArray, List.getElem?_cons_succ, List.getElem?_cons_zero]; exact rfl))); go_simp; go_at_call 149; refine (op0_any (numOf a) (numOf b) _ _ _ HNA.out HNB.out hxa hyb).mono ?_; rintro e w6 ⟨z, rfl, hz, hzn, hE⟩; obtain ⟨z1, zc, z2, zd, rfl, k1, k2⟩ := hz; go_wp2_with fail; refine hK.out _ _ ?_ (fun hHeld => ?_); rotate_left; clear hK K; (try simp only [Act.put, List.setIfInBounds_toArray, List.set_cons_zero, List.set_cons_succ]))
      rotate_left
      · exact ⟨hE.cell hSA.1, hE.cell hSA.2.1, hE.cell hSA.2.2.1, hE.cell hSA.2.2.2.1, hE.cell hSA.2.2.2.2.1, hE.cell hSA.2.2.2.2.2⟩
      have N6 := N.ext hE
      have hnl : nb < w5.heap.size := cell_lt N.c0
      have E6 := E.trans hE
      clear hSA N E hE
      ((refine ePu 7 ?_); (refine ePu 8 ?_); (refine ePu 9 ?_))
      clear hHeld
      have HN := Lib.hid N6
      obtain ⟨x0, x1, x2, g0, g1, g2⟩ := N6
      (refine wpAnyE_free (i := 11) (o := ?_) ?_ (by kernel_rfl) (by kernel_rfl) (fun K hK => ?_); rotate_left; (focus ((simp only [List.getElem?_toArray, List.getElem?_cons_succ, List.getElem?_cons_zero]; exact rfl))); go_simp; refine hK.out _ _ ?_; clear hK K; (try simp only [Act.put, List.setIfInBounds_toArray, List.set_cons_zero, List.set_cons_succ]))
      ((refine ePu 12 ?_))
      refine wpAnyE_done (by kernel_rfl) ?_ _
      go_wp2_with fail
      go_meet
      refine ⟨nb, _, _, _, _, _, _, _, rfl, rfl, ((HN.out.set0 _).set1 _).set2 _, ?_, extA⟩
      exact NumV.set (NumV.set (NumV.set ⟨z1, zc, z2, zd, rfl, k1, k2⟩ hzn hnl) hzn hnl) hzn hnl
  case rest =>
    obtain ⟨nb, z0, z1, zn, zc, z2, zm, zd, rfl, rfl, N, HZ, E⟩ := hcut
    have ka := (numOf_len HEA.out).2
    have kb := (numOf_len HEB.out).2
    have hval : valQ (sumN (numOf a) (numOf b)) = fracQ a + fracQ b := (sumN_val ka kb).1.trans (by rw [numOf_val, numOf_val])
    have hden : (sumN (numOf a) (numOf b)).2.2 ≠ 0 := (sumN_val ka kb).2
    have hlen := sumN_len hxa hyb
    have HRR := Lib.hid (HRES.out.2.2 HEA.out HEB.out)
    generalize sumN (numOf a) (numOf b) = SN at *
    have HW := Lib.hid (written_any SN.1 SN.2.1 SN.2.2 _ _ HZ.out hden (HG.out.ext E) hlen.1 hlen.2)
    have HV := Lib.hid (show numQ SN.1 SN.2.1 SN.2.2 = fracQ a + fracQ b from hval)
    obtain ⟨x0, x1, x2, _, _, _⟩ := N.out
    clear X Y HNA HNB HRES HZ N hval hden hlen ka kb hxa hyb
    go_wp2_with (go_at_call 128; refine HW.out.mono ?_; rintro e w9 ⟨rfl, hE⟩)
    go_ret2
    exact ⟨by rw [HRR.out, HV.out]; rfl, E.trans hE⟩
end Go.Proofs.YtmndcdjcodfchaaGreatDoor
namespace Go.Proofs.YtmndcdjcodfchaaGreatDoor
open Go.RowKit
end Go.Proofs.YtmndcdjcodfchaaGreatDoor
namespace Go.Proofs.YtmndcdjcodfchaaGreatDoor
open Go.RowKit
set_option maxHeartbeats 16000000 in
set_option maxRecDepth 100000 in
theorem computed2_any (a b : Txt) (w : World) (hG : Glob w) (ha : a.length ≤ 400) (hb : b.length ≤ 400) :
    Calls Tryz.prog 102 #[.int .i64 2, txt a, txt b] w (ResPost (mulS a b) w) := by
  have HG := Lib.hid hG
  have HPA := Lib.hid (fun W (hW : Ext w W) => parsed_any a W (hG.ext hW) ha)
  have HPB := Lib.hid (fun W (hW : Ext w W) => parsed_any b W (hG.ext hW) hb)
  have HRES := Lib.hid (@mul_res a b)
  clear hG
  go_enter Tryz.func102, Tryz.ntmps102
  go_wp2_with fail
  refine (HPA.out _ (Ext.refl _)).mono ?_
  rintro e w1 ⟨v1, rfl, ⟨s1, ta, tn, tc, ba, bn, bc, rfl⟩, hn1, hE⟩
  have HN1 := Lib.hid hn1
  clear hn1 HPA
  by_cases ea : fracE a = 0
  rotate_left
  · have HR := Lib.hid (HRES.out.1 ea)
    have hne : (((fracE a : Nat) : Int) != 0) = true := by rw [bne_iff_ne]; omega
    clear HN1 HPB HRES
    generalize fracE a = n at *
    go_wp2_with fail
    go_ret2
    exact ⟨by rw [HR.out]; rfl, extA⟩
  have HNA := Lib.hid (HN1.out ea)
  rw [ea]
  have HEA := Lib.hid ea
  clear ea HN1
  have EV : Ext w1 (w1.alloc (.cells #[.bool s1, .slice ta tn tc, .slice ba bn bc] 111)) := extA
  have X : Num3 w1.heap.size (w1.alloc (.cells #[.bool s1, .slice ta tn tc, .slice ba bn bc] 111)) (.bool s1) (.slice ta tn tc) (.slice ba bn bc) := ⟨by go_simp, by go_simp, by go_simp, by go_simp, by go_simp, by go_simp⟩
  have E := hE.trans EV
  replace HNA := Lib.hid (HNA.out.ext EV)
  clear EV hE
  go_wp2_with fail
  obtain ⟨xb, hxb⟩ : ∃ xb, xb = w1.heap.size := ⟨_, rfl⟩
  rw [← hxb] at X ⊢
  clear hxb
  generalize (w1.alloc (.cells #[.bool s1, .slice ta tn tc, .slice ba bn bc] 111)) = W1 at X E HNA ⊢
  refine (HPB.out _ E).mono ?_
  rintro e w3 ⟨v2, rfl, ⟨s2, ua, un, uc, va, vn, vc, rfl⟩, hn2, hE⟩
  replace X := X.ext hE
  replace E := E.trans hE
  replace HNA := Lib.hid (HNA.out.ext hE)
  have HN2 := Lib.hid hn2
  clear hn2 HPB hE
  by_cases eb : fracE b = 0
  rotate_left
  · have HR := Lib.hid (HRES.out.2.1 HEA.out eb)
    have hne : (((fracE b : Nat) : Int) != 0) = true := by rw [bne_iff_ne]; omega
    clear HN2 HRES HEA
    generalize fracE b = n at *
    go_wp2_with fail
    go_ret2
    exact ⟨by rw [HR.out]; rfl, extA⟩
  have HNB := Lib.hid (HN2.out eb)
  rw [eb]
  have HEB := Lib.hid eb
  clear eb HN2
  have EV : Ext w3 (w3.alloc (.cells #[.bool s2, .slice ua un uc, .slice va vn vc] 111)) := extA
  have Y : Num3 w3.heap.size (w3.alloc (.cells #[.bool s2, .slice ua un uc, .slice va vn vc] 111)) (.bool s2) (.slice ua un uc) (.slice va vn vc) := ⟨by go_simp, by go_simp, by go_simp, by go_simp, by go_simp, by go_simp⟩
  replace X := X.ext EV
  replace E := E.trans EV
  replace HNA := Lib.hid (HNA.out.ext EV)
  replace HNB := Lib.hid (HNB.out.ext EV)
  clear EV
  go_wp2_with fail
  obtain ⟨yb, hyb⟩ : ∃ yb, yb = w3.heap.size := ⟨_, rfl⟩
  rw [← hyb] at Y ⊢
  clear hyb
  generalize (w3.alloc (.cells #[.bool s2, .slice ua un uc, .slice va vn vc] 111)) = W3 at X Y E HNA HNB ⊢
  have hix := op_index2
  have hfi := op_field
  have hxa := (numOf_len HEA.out).1
  have hyb := (numOf_len HEB.out).1
  go_cut [11, 9] (fun n ev wx => ∃ nb z0 z1 zn zc z2 zm zd, n = .pointer (some ⟨nb, 0, none⟩) ∧ ev = .int .i64 0 ∧ Hid (Num3 nb wx (.bool z0) (.slice z1 zn zc) (.slice z2 zm zd)) ∧ Hid (NumV wx (.agg #[.bool z0, .slice z1 zn zc, .slice z2 zm zd]) (mulN (numOf a) (numOf b))) ∧ Ext w wx)
  case first =>
    have hdr : Ext W3 W3.drew := extA
    replace X := X.ext hdr
    replace Y := Y.ext hdr
    replace E := E.trans hdr
    replace HNA := Lib.hid (HNA.out.ext hdr)
    replace HNB := Lib.hid (HNB.out.ext hdr)
    have hS : W3.drew.cell? ⟨xb, 0, none⟩ = some (.bool s1) ∧ W3.drew.cell? ⟨xb, 1, none⟩ = some (.slice ta tn tc) ∧ W3.drew.cell? ⟨xb, 2, none⟩ = some (.slice ba bn bc) ∧ W3.drew.cell? ⟨yb, 0, none⟩ = some (.bool s2) ∧ W3.drew.cell? ⟨yb, 1, none⟩ = some (.slice ua un uc) ∧ W3.drew.cell? ⟨yb, 2, none⟩ = some (.slice va vn vc) := ⟨X.c0, X.c1, X.c2, Y.c0, Y.c1, Y.c2⟩
    refine wp_region_heldE 11 (fun w' => w'.cell? ⟨xb, 0, none⟩ = some (.bool s1) ∧ w'.cell? ⟨xb, 1, none⟩ = some (.slice ta tn tc) ∧ w'.cell? ⟨xb, 2, none⟩ = some (.slice ba bn bc) ∧ w'.cell? ⟨yb, 0, none⟩ = some (.bool s2) ∧ w'.cell? ⟨yb, 1, none⟩ = some (.slice ua un uc) ∧ w'.cell? ⟨yb, 2, none⟩ = some (.slice va vn vc)) (by kernel_rfl) ?_
    clear hdr X Y
    generalize W3.drew = W4 at E HNA HNB hS ⊢
    ((refine eTk 1 ?_); (refine eTk 4 ?_); (refine eTk 5 ?_))
    refine wpAnyE_two (i := 0) (j := 10) (o := ?_) (p := ?_) ?_ ?_ (by kernel_rfl) (fun K hK => ?_) (fun K hK => ?_)
    rotate_left 2
    · simp only [List.getElem?_toArray, List.getElem?_cons_zero]; exact rfl
    · simp only [List.getElem?_toArray, List.getElem?_cons_succ, List.getElem?_cons_zero]; exact rfl
    · go_simp
      go_at_call 127
      refine (operations_any _).mono ?_
      rintro e w5 ⟨rfl, hE⟩
      go_wp2_with fail
      have hS5 : w5.cell? ⟨xb, 0, none⟩ = some (.bool s1) ∧ w5.cell? ⟨xb, 1, none⟩ = some (.slice ta tn tc) ∧ w5.cell? ⟨xb, 2, none⟩ = some (.slice ba bn bc) ∧ w5.cell? ⟨yb, 0, none⟩ = some (.bool s2) ∧ w5.cell? ⟨yb, 1, none⟩ = some (.slice ua un uc) ∧ w5.cell? ⟨yb, 2, none⟩ = some (.slice va vn vc) := ⟨hE.cell hS.1, hE.cell hS.2.1, hE.cell hS.2.2.1, hE.cell hS.2.2.2.1, hE.cell hS.2.2.2.2.1, hE.cell hS.2.2.2.2.2⟩
      refine hK.out _ _ hS5 (fun hHeld => ?_)
      clear hK K hHeld
      (try simp only [Act.put, List.setIfInBounds_toArray, List.set_cons_zero, List.set_cons_succ])
      replace E := E.trans hE
      replace HNA := Lib.hid (HNA.out.ext hE)
      replace HNB := Lib.hid (HNB.out.ext hE)
      clear hE hS
      ((refine eTk 2 ?_); (refine eTk 3 ?_))
      refine wpAnyE_two (i := 6) (j := 10) (o := ?_) (p := ?_) ?_ ?_ (by kernel_rfl) (fun K hK => ?_) (fun K hK => ?_)
      rotate_left 2
      · simp only [List.getElem?_toArray, List.getElem?_cons_succ, List.getElem?_cons_zero]; exact rfl
      · simp only [List.getElem?_toArray, List.getElem?_cons_succ, List.getElem?_cons_zero]; exact rfl
      · go_simp
        go_at_call 151
        refine (op2_any (numOf a) (numOf b) _ _ _ HNA.out HNB.out hxa hyb).mono ?_; rintro e w6 ⟨z, rfl, hz, hzn, hE⟩; obtain ⟨z1, zc, z2, zd, rfl, k1, k2⟩ := hz
        go_wp2_with fail
        have hS6 : w6.cell? ⟨xb, 0, none⟩ = some (.bool s1) ∧ w6.cell? ⟨xb, 1, none⟩ = some (.slice ta tn tc) ∧ w6.cell? ⟨xb, 2, none⟩ = some (.slice ba bn bc) ∧ w6.cell? ⟨yb, 0, none⟩ = some (.bool s2) ∧ w6.cell? ⟨yb, 1, none⟩ = some (.slice ua un uc) ∧ w6.cell? ⟨yb, 2, none⟩ = some (.slice va vn vc) := ⟨hE.cell hS5.1, hE.cell hS5.2.1, hE.cell hS5.2.2.1, hE.cell hS5.2.2.2.1, hE.cell hS5.2.2.2.2.1, hE.cell hS5.2.2.2.2.2⟩
        refine hK.out _ _ hS6 (fun hHeld => ?_)
        clear hK K hHeld hS5
        (try simp only [Act.put, List.setIfInBounds_toArray, List.set_cons_zero, List.set_cons_succ])
        ((refine ePu 7 ?_); (refine ePu 8 ?_); (refine ePu 9 ?_))
        have EA : Ext w6 (w6.alloc (.cells #[.bool false, .slice none 0 0, .slice none 0 0] 111)) := extA
        have N : Num3 w6.heap.size (w6.alloc (.cells #[.bool false, .slice none 0 0, .slice none 0 0] 111)) (.bool false) (.slice none 0 0) (.slice none 0 0) := ⟨by go_simp, by go_simp, by go_simp, by go_simp, by go_simp, by go_simp⟩
        (refine wpAnyE_one (i := 10) (o := ?_) ?_ (by kernel_rfl) (fun K hK => ?_); rotate_left; (focus ((simp only [List.getElem?_toArray, List.getElem?_cons_succ, List.getElem?_cons_zero]; exact rfl))); go_simp; refine hK.out _ _ ?_ (fun hHeld => ?_); rotate_left; clear hK K; (try simp only [Act.put, List.setIfInBounds_toArray, List.set_cons_zero, List.set_cons_succ]))
        rotate_left
        · exact ⟨EA.cell hS6.1, EA.cell hS6.2.1, EA.cell hS6.2.2.1, EA.cell hS6.2.2.2.1, EA.cell hS6.2.2.2.2.1, EA.cell hS6.2.2.2.2.2⟩
        obtain ⟨nb, hnb⟩ : ∃ nb, nb = w6.heap.size := ⟨_, rfl⟩
        rw [← hnb] at N ⊢
        have hnw : w6.heap.size ≤ nb := by omega
        have hww : w.heap.size ≤ nb := by have := (E.trans hE).size; omega
        have E6 := (E.trans hE).trans EA
        have HEA := Lib.hid EA
        clear EA hS6 hHeld hnb E hE
        generalize (w6.alloc (.cells #[.bool false, .slice none 0 0, .slice none 0 0] 111)) = W7 at N HEA E6 ⊢
        have HN := Lib.hid N
        obtain ⟨x0, x1, x2, g0, g1, g2⟩ := N
        (refine wpAnyE_free (i := 11) (o := ?_) ?_ (by kernel_rfl) (by kernel_rfl) (fun K hK => ?_); rotate_left; (focus ((simp only [List.getElem?_toArray, List.getElem?_cons_succ, List.getElem?_cons_zero]; exact rfl))); go_simp; refine hK.out _ _ ?_; clear hK K; (try simp only [Act.put, List.setIfInBounds_toArray, List.set_cons_zero, List.set_cons_succ]))
        ((refine ePu 12 ?_))
        refine wpAnyE_done (by kernel_rfl) ?_ _
        go_wp2_with fail
        go_meet
        refine ⟨nb, _, _, _, _, _, _, _, rfl, rfl, ((HN.out.set0 _).set1 _).set2 _, ?_, extA⟩
        exact NumV.ext ⟨z1, zc, z2, zd, rfl, k1, k2⟩ (((HEA.out.set hnw _).set hnw _).set hnw _)
      · go_simp
        have EA : Ext w5 (w5.alloc (.cells #[.bool false, .slice none 0 0, .slice none 0 0] 111)) := extA
        have N : Num3 w5.heap.size (w5.alloc (.cells #[.bool false, .slice none 0 0, .slice none 0 0] 111)) (.bool false) (.slice none 0 0) (.slice none 0 0) := ⟨by go_simp, by go_simp, by go_simp, by go_simp, by go_simp, by go_simp⟩
        have hSA : (w5.alloc (.cells #[.bool false, .slice none 0 0, .slice none 0 0] 111)).cell? ⟨xb, 0, none⟩ = some (.bool s1) ∧ (w5.alloc (.cells #[.bool false, .slice none 0 0, .slice none 0 0] 111)).cell? ⟨xb, 1, none⟩ = some (.slice ta tn tc) ∧ (w5.alloc (.cells #[.bool false, .slice none 0 0, .slice none 0 0] 111)).cell? ⟨xb, 2, none⟩ = some (.slice ba bn bc) ∧ (w5.alloc (.cells #[.bool false, .slice none 0 0, .slice none 0 0] 111)).cell? ⟨yb, 0, none⟩ = some (.bool s2) ∧ (w5.alloc (.cells #[.bool false, .slice none 0 0, .slice none 0 0] 111)).cell? ⟨yb, 1, none⟩ = some (.slice ua un uc) ∧ (w5.alloc (.cells #[.bool false, .slice none 0 0, .slice none 0 0] 111)).cell? ⟨yb, 2, none⟩ = some (.slice va vn vc) := ⟨EA.cell hS5.1, EA.cell hS5.2.1, EA.cell hS5.2.2.1, EA.cell hS5.2.2.2.1, EA.cell hS5.2.2.2.2.1, EA.cell hS5.2.2.2.2.2⟩
        refine hK.out _ _ hSA (fun hHeld => ?_)
        clear hK K hHeld hS5
        (try simp only [Act.put, List.setIfInBounds_toArray, List.set_cons_zero, List.set_cons_succ])
        obtain ⟨nb, hnb⟩ : ∃ nb, nb = w5.heap.size := ⟨_, rfl⟩
        rw [← hnb] at N ⊢
        have hww : w.heap.size ≤ nb := by have := E.size; omega
        replace E := E.trans EA
        replace HNA := Lib.hid (HNA.out.ext EA)
        replace HNB := Lib.hid (HNB.out.ext EA)
        clear EA hnb
        generalize (w5.alloc (.cells #[.bool false, .slice none 0 0, .slice none 0 0] 111)) = w5 at N hSA E HNA HNB ⊢
        (refine wpAnyE_one (i := 6) (o := ?_) ?_ (by kernel_rfl) (fun K hK => ?_); rotate_left; (focus ((simp only [List.getElem?_toArray, List.getElem?_cons_succ, List.getElem?_cons_zero]; exact rfl))); go_simp; go_at_call 151; refine (op2_any (numOf a) (numOf b) _ _ _ HNA.out HNB.out hxa hyb).mono ?_; rintro e w6 ⟨z, rfl, hz, hzn, hE⟩; obtain ⟨z1, zc, z2, zd, rfl, k1, k2⟩ := hz; go_wp2_with fail; refine hK.out _ _ ?_ (fun hHeld => ?_); rotate_left; clear hK K; (try simp only [Act.put, List.setIfInBounds_toArray, List.set_cons_zero, List.set_cons_succ]))
        rotate_left
        · exact ⟨hE.cell hSA.1, hE.cell hSA.2.1, hE.cell hSA.2.2.1, hE.cell hSA.2.2.2.1, hE.cell hSA.2.2.2.2.1, hE.cell hSA.2.2.2.2.2⟩
        have N6 := N.ext hE
        have hnl : nb < w5.heap.size := cell_lt N.c0
        have E6 := E.trans hE
        clear hSA N E hE
        ((refine ePu 7 ?_); (refine ePu 8 ?_); (refine ePu 9 ?_))
        clear hHeld
        have HN := Lib.hid N6
        obtain ⟨x0, x1, x2, g0, g1, g2⟩ := N6
        (refine wpAnyE_free (i := 11) (o := ?_) ?_ (by kernel_rfl) (by kernel_rfl) (fun K hK => ?_); rotate_left; (focus ((simp only [List.getElem?_toArray, List.getElem?_cons_succ, List.getElem?_cons_zero]; exact rfl))); go_simp; refine hK.out _ _ ?_; clear hK K; (try simp only [Act.put, List.setIfInBounds_toArray, List.set_cons_zero, List.set_cons_succ]))
        ((refine ePu 12 ?_))
        refine wpAnyE_done (by kernel_rfl) ?_ _
        go_wp2_with fail
        go_meet
        refine ⟨nb, _, _, _, _, _, _, _, rfl, rfl, ((HN.out.set0 _).set1 _).set2 _, ?_, extA⟩
        exact NumV.set (NumV.set (NumV.set ⟨z1, zc, z2, zd, rfl, k1, k2⟩ hzn hnl) hzn hnl) hzn hnl
    · go_simp
      have EA : Ext W4 (W4.alloc (.cells #[.bool false, .slice none 0 0, .slice none 0 0] 111)) := extA
      have N : Num3 W4.heap.size (W4.alloc (.cells #[.bool false, .slice none 0 0, .slice none 0 0] 111)) (.bool false) (.slice none 0 0) (.slice none 0 0) := ⟨by go_simp, by go_simp, by go_simp, by go_simp, by go_simp, by go_simp⟩
      have hSA : (W4.alloc (.cells #[.bool false, .slice none 0 0, .slice none 0 0] 111)).cell? ⟨xb, 0, none⟩ = some (.bool s1) ∧ (W4.alloc (.cells #[.bool false, .slice none 0 0, .slice none 0 0] 111)).cell? ⟨xb, 1, none⟩ = some (.slice ta tn tc) ∧ (W4.alloc (.cells #[.bool false, .slice none 0 0, .slice none 0 0] 111)).cell? ⟨xb, 2, none⟩ = some (.slice ba bn bc) ∧ (W4.alloc (.cells #[.bool false, .slice none 0 0, .slice none 0 0] 111)).cell? ⟨yb, 0, none⟩ = some (.bool s2) ∧ (W4.alloc (.cells #[.bool false, .slice none 0 0, .slice none 0 0] 111)).cell? ⟨yb, 1, none⟩ = some (.slice ua un uc) ∧ (W4.alloc (.cells #[.bool false, .slice none 0 0, .slice none 0 0] 111)).cell? ⟨yb, 2, none⟩ = some (.slice va vn vc) := ⟨EA.cell hS.1, EA.cell hS.2.1, EA.cell hS.2.2.1, EA.cell hS.2.2.2.1, EA.cell hS.2.2.2.2.1, EA.cell hS.2.2.2.2.2⟩
      refine hK.out _ _ hSA (fun hHeld => ?_)
      clear hK K hHeld hS
      (try simp only [Act.put, List.setIfInBounds_toArray, List.set_cons_zero, List.set_cons_succ])
      obtain ⟨nb, hnb⟩ : ∃ nb, nb = W4.heap.size := ⟨_, rfl⟩
      rw [← hnb] at N ⊢
      have hww : w.heap.size ≤ nb := by have := E.size; omega
      replace E := E.trans EA
      replace HNA := Lib.hid (HNA.out.ext EA)
      replace HNB := Lib.hid (HNB.out.ext EA)
      clear EA hnb
      generalize (W4.alloc (.cells #[.bool false, .slice none 0 0, .slice none 0 0] 111)) = W5 at N hSA E HNA HNB ⊢
      (refine wpAnyE_one (i := 0) (o := ?_) ?_ (by kernel_rfl) (fun K hK => ?_); rotate_left; (focus ((simp only [List.getElem?_toArray, List.getElem?_cons_zero]; exact rfl))); go_simp; go_at_call 127; refine (operations_any _).mono ?_; rintro e w5 ⟨rfl, hE⟩; go_wp2_with fail; refine hK.out _ _ ?_ (fun hHeld => ?_); rotate_left; clear hK K; (try simp only [Act.put, List.setIfInBounds_toArray, List.set_cons_zero, List.set_cons_succ]))
      rotate_left
      · exact ⟨hE.cell hSA.1, hE.cell hSA.2.1, hE.cell hSA.2.2.1, hE.cell hSA.2.2.2.1, hE.cell hSA.2.2.2.2.1, hE.cell hSA.2.2.2.2.2⟩
      replace hSA : w5.cell? ⟨xb, 0, none⟩ = some (.bool s1) ∧ w5.cell? ⟨xb, 1, none⟩ = some (.slice ta tn tc) ∧ w5.cell? ⟨xb, 2, none⟩ = some (.slice ba bn bc) ∧ w5.cell? ⟨yb, 0, none⟩ = some (.bool s2) ∧ w5.cell? ⟨yb, 1, none⟩ = some (.slice ua un uc) ∧ w5.cell? ⟨yb, 2, none⟩ = some (.slice va vn vc) := ⟨hE.cell hSA.1, hE.cell hSA.2.1, hE.cell hSA.2.2.1, hE.cell hSA.2.2.2.1, hE.cell hSA.2.2.2.2.1, hE.cell hSA.2.2.2.2.2⟩
      replace N := N.ext hE
      replace E := E.trans hE
      replace HNA := Lib.hid (HNA.out.ext hE)
      replace HNB := Lib.hid (HNB.out.ext hE)
      clear hE hHeld
      ((refine eTk 2 ?_); (refine eTk 3 ?_))
      (refine wpAnyE_one (i := 6) (o := ?_) ?_ (by kernel_rfl) (fun K hK => ?_); rotate_left; (focus ((simp only [List.getElem?_toArray, List.getElem?_cons_succ, List.getElem?_cons_zero]; exact rfl))); go_simp; go_at_call 151; refine (op2_any (numOf a) (numOf b) _ _ _ HNA.out HNB.out hxa hyb).mono ?_; rintro e w6 ⟨z, rfl, hz, hzn, hE⟩; obtain ⟨z1, zc, z2, zd, rfl, k1, k2⟩ := hz; go_wp2_with fail; refine hK.out _ _ ?_ (fun hHeld => ?_); rotate_left; clear hK K; (try simp only [Act.put, List.setIfInBounds_toArray, List.set_cons_zero, List.set_cons_succ]))
      rotate_left
      · exact ⟨hE.cell hSA.1, hE.cell hSA.2.1, hE.cell hSA.2.2.1, hE.cell hSA.2.2.2.1, hE.cell hSA.2.2.2.2.1, hE.cell hSA.2.2.2.2.2⟩
      have N6 := N.ext hE
      have hnl : nb < w5.heap.size := cell_lt N.c0
      have E6 := E.trans hE
      clear hSA N E hE
      ((refine ePu 7 ?_); (refine ePu 8 ?_); (refine ePu 9 ?_))
      clear hHeld
      have HN := Lib.hid N6
      obtain ⟨x0, x1, x2, g0, g1, g2⟩ := N6
      (refine wpAnyE_free (i := 11) (o := ?_) ?_ (by kernel_rfl) (by kernel_rfl) (fun K hK => ?_); rotate_left; (focus ((simp only [List.getElem?_toArray, List.getElem?_cons_succ, List.getElem?_cons_zero]; exact rfl))); go_simp; refine hK.out _ _ ?_; clear hK K; (try simp only [Act.put, List.setIfInBounds_toArray, List.set_cons_zero, List.set_cons_succ]))
      ((refine ePu 12 ?_))
      refine wpAnyE_done (by kernel_rfl) ?_ _
      go_wp2_with fail
      go_meet
      refine ⟨nb, _, _, _, _, _, _, _, rfl, rfl, ((HN.out.set0 _).set1 _).set2 _, ?_, extA⟩
      exact NumV.set (NumV.set (NumV.set ⟨z1, zc, z2, zd, rfl, k1, k2⟩ hzn hnl) hzn hnl) hzn hnl
  case rest =>
    obtain ⟨nb, z0, z1, zn, zc, z2, zm, zd, rfl, rfl, N, HZ, E⟩ := hcut
    have ka := (numOf_len HEA.out).2
    have kb := (numOf_len HEB.out).2
    have hval : valQ (mulN (numOf a) (numOf b)) = fracQ a * fracQ b := (mulN_val _ _).trans (by rw [numOf_val, numOf_val])
    have hden : (mulN (numOf a) (numOf b)).2.2 ≠ 0 := Nat.mul_ne_zero ka kb
    have hlen := mulN_len hxa hyb
    have HRR := Lib.hid (HRES.out.2.2 HEA.out HEB.out)
    generalize mulN (numOf a) (numOf b) = SN at *
    have HW := Lib.hid (written_any SN.1 SN.2.1 SN.2.2 _ _ HZ.out hden (HG.out.ext E) hlen.1 hlen.2)
    have HV := Lib.hid (show numQ SN.1 SN.2.1 SN.2.2 = fracQ a * fracQ b from hval)
    obtain ⟨x0, x1, x2, _, _, _⟩ := N.out
    clear X Y HNA HNB HRES HZ N hval hden hlen ka kb hxa hyb
    go_wp2_with (go_at_call 128; refine HW.out.mono ?_; rintro e w9 ⟨rfl, hE⟩)
    go_ret2
    exact ⟨by rw [HRR.out, HV.out]; rfl, E.trans hE⟩
end Go.Proofs.YtmndcdjcodfchaaGreatDoor
namespace Go.Proofs.YtmndcdjcodfchaaGreatDoor
open Go.RowKit
end Go.Proofs.YtmndcdjcodfchaaGreatDoor
namespace Go.Proofs.YtmndcdjcodfchaaGreatDoor
open Go.RowKit
open Go.Lib (decDigits itoa)
def IntP (z : Int) (n : Nat) (w : World) (e : Ending) (w' : World) : Prop := e = .returned (.tuple #[.int .i64 z, .int .i64 (n : Nat)]) ∧ Ext w w'
set_option maxHeartbeats 4000000 in
set_option maxRecDepth 100000 in
theorem check_any (a : Txt) (w : World) (hG : Glob w) (ha : a.length ≤ 400) :
    Calls Tryz.prog 49 #[txt a] w fun e w' => e = .returned (.int .i64 (fracE a : Nat)) ∧ Ext w w' := by
  have HPA := Lib.hid (parsed_any a w hG ha)
  clear hG
  go_enter Tryz.func49, Tryz.ntmps49
  go_wp2_with fail
  refine HPA.out.mono ?_
  rintro e w1 ⟨v1, rfl, ⟨s1, ta, tn, tc, ba, bn, bc, rfl⟩, hn1, hE⟩
  clear hn1 HPA
  go_wp2_with fail
  go_ret
  exact ⟨rfl, extA⟩
set_option maxHeartbeats 2000000 in
theorem add_any (a b : Txt) (w : World) (hG : Glob w) (ha : a.length ≤ 400) (hb : b.length ≤ 400) : Calls Tryz.prog 77 #[txt a, txt b] w (ResP (addS a b) w) := by
  have H := Lib.hid (computed0_any a b w hG ha hb)
  clear hG
  go_enter Tryz.func77, Tryz.ntmps77
  go_wp2_with (go_at_call 102; refine H.out.mono ?_; rintro e w1 ⟨rfl, hE⟩)
  go_ret2
  exact ⟨rfl, hE⟩
set_option maxHeartbeats 2000000 in
theorem mul_any (a b : Txt) (w : World) (hG : Glob w) (ha : a.length ≤ 400) (hb : b.length ≤ 400) : Calls Tryz.prog 76 #[txt a, txt b] w (ResP (mulS a b) w) := by
  have H := Lib.hid (computed2_any a b w hG ha hb)
  clear hG
  go_enter Tryz.func76, Tryz.ntmps76
  go_wp2_with (go_at_call 102; refine H.out.mono ?_; rintro e w1 ⟨rfl, hE⟩)
  go_ret2
  exact ⟨rfl, hE⟩
end Go.Proofs.YtmndcdjcodfchaaGreatDoor
namespace Go.Proofs.YtmndcdjcodfchaaGreatDoor
open Go.RowKit
open Go.Lib (decDigits itoa)
end Go.Proofs.YtmndcdjcodfchaaGreatDoor
namespace Go.Proofs.YtmndcdjcodfchaaGreatDoor
open Go.RowKit
open Go.Lib (decDigits itoa)
end Go.Proofs.YtmndcdjcodfchaaGreatDoor
namespace Go.Proofs.YtmndcdjcodfchaaGreatDoor
open Go.RowKit
open Go.Lib (decDigits itoa)
end Go.Proofs.YtmndcdjcodfchaaGreatDoor
namespace Go.Proofs.YtmndcdjcodfchaaGreatDoor
open Go.RowKit
open Go.Lib (decDigits itoa)
theorem Good.any {a : Txt} (h : fracE a = 0) : Good 60 a (fracQ a) := ⟨h, rfl, frac_fit h⟩
end Go.Proofs.YtmndcdjcodfchaaGreatDoor
namespace Go.Proofs.YtmndcdjcodfchaaGreatDoor
open Go.RowKit
open Go.Lib (decDigits itoa)
theorem cmp_num2 {a b : Txt} (ea : fracE a = 0) (eb : fracE b = 0) : cmpS a b = (signN (sumN (numOf a) (negN (numOf b))), 0) := by
  obtain ⟨h1, h2⟩ := sumN_val (x := numOf a) (y := negN (numOf b)) (numOf_len ea).2 (numOf_len eb).2
  have h3 : valQ (sumN (numOf a) (negN (numOf b))) = fracQ a - fracQ b := by rw [h1, negN_val, numOf_val, numOf_val, Rat.sub_eq_add_neg]
  unfold cmpS ifOk
  rw [if_pos (bothE_zero ea eb), ← h3]
  unfold valQ signN
  rw [num_sign h2]
set_option maxHeartbeats 16000000 in
set_option maxRecDepth 100000 in
theorem compareF_any (a b : Txt) (w : World) (hG : Glob w) (ha : a.length ≤ 400) (hb : b.length ≤ 400) :
    Calls Tryz.prog 52 #[txt a, txt b] w (IntP (cmpS a b).1 (cmpS a b).2 w) := by
  have HPA := Lib.hid (fun W (hW : Ext w W) => parsed_any a W (hG.ext hW) ha)
  have HPB := Lib.hid (fun W (hW : Ext w W) => parsed_any b W (hG.ext hW) hb)
  clear hG
  unfold IntP
  go_enter Tryz.func52, Tryz.ntmps52
  go_wp2_with fail
  refine (HPA.out _ (Ext.refl _)).mono ?_
  rintro e w1 ⟨v1, rfl, ⟨s1, ta, tn, tc, ba, bn, bc, rfl⟩, hn1, hE⟩
  have HN1 := Lib.hid hn1
  clear hn1 HPA
  by_cases ea : fracE a = 0
  rotate_left
  · have HR : Hid (cmpS a b = (0, fracE a)) := by show _ = _; unfold cmpS ifOk; rw [bothE_left ea, if_neg ea]
    have hne : (((fracE a : Nat) : Int) != 0) = true := by rw [bne_iff_ne]; omega
    clear HN1 HPB
    generalize fracE a = n at *
    go_wp2_with fail
    go_ret2
    exact ⟨by rw [HR.out]; rfl, extA⟩
  have HNA := Lib.hid (HN1.out ea)
  rw [ea]
  have HEA := Lib.hid ea
  clear ea HN1
  have hne0 : (((0 : Nat) : Int) != 0) = false := rfl
  have EV : Ext w1 (w1.alloc (.cells #[.bool s1, .slice ta tn tc, .slice ba bn bc] 111)) := extA
  have X : Num3 w1.heap.size (w1.alloc (.cells #[.bool s1, .slice ta tn tc, .slice ba bn bc] 111)) (.bool s1) (.slice ta tn tc) (.slice ba bn bc) := ⟨by go_simp, by go_simp, by go_simp, by go_simp, by go_simp, by go_simp⟩
  have E := hE.trans EV
  replace HNA := Lib.hid (HNA.out.ext EV)
  clear EV hE
  go_wp2_with fail
  obtain ⟨xb, hxb⟩ : ∃ xb, xb = w1.heap.size := ⟨_, rfl⟩
  rw [← hxb] at X ⊢
  clear hxb
  generalize (w1.alloc (.cells #[.bool s1, .slice ta tn tc, .slice ba bn bc] 111)) = W1 at X E HNA ⊢
  refine (HPB.out _ E).mono ?_
  rintro e w3 ⟨v2, rfl, ⟨s2, ua, un, uc, va, vn, vc, rfl⟩, hn2, hE⟩
  replace X := X.ext hE
  replace E := E.trans hE
  replace HNA := Lib.hid (HNA.out.ext hE)
  have HN2 := Lib.hid hn2
  clear hn2 HPB hE
  by_cases eb : fracE b = 0
  rotate_left
  · have HR : Hid (cmpS a b = (0, fracE b)) := by show _ = _; unfold cmpS ifOk; rw [bothE_right HEA.out, if_neg eb]
    have hne : (((fracE b : Nat) : Int) != 0) = true := by rw [bne_iff_ne]; omega
    clear HN2 HEA
    generalize fracE b = n at *
    go_wp2_with fail
    go_ret2
    exact ⟨by rw [HR.out]; rfl, extA⟩
  have HNB := Lib.hid (HN2.out eb)
  have HR := Lib.hid (cmp_num2 HEA.out eb)
  have hxa := (numOf_len HEA.out).1
  have hyb := (numOf_len eb).1
  rw [eb]
  clear eb HN2 HEA
  have EV : Ext w3 (w3.alloc (.cells #[.bool s2, .slice ua un uc, .slice va vn vc] 111)) := extA
  have Y : Num3 w3.heap.size (w3.alloc (.cells #[.bool s2, .slice ua un uc, .slice va vn vc] 111)) (.bool s2) (.slice ua un uc) (.slice va vn vc) := ⟨by go_simp, by go_simp, by go_simp, by go_simp, by go_simp, by go_simp⟩
  replace X := X.ext EV
  replace E := E.trans EV
  replace HNA := Lib.hid (HNA.out.ext EV)
  replace HNB := Lib.hid (HNB.out.ext EV)
  clear EV
  generalize numOf a = NA at *
  generalize numOf b = NB at *
  go_wp2_with fail
  obtain ⟨yb, hyb2⟩ : ∃ yb, yb = w3.heap.size := ⟨_, rfl⟩
  rw [← hyb2] at Y ⊢
  clear hyb2
  generalize (w3.alloc (.cells #[.bool s2, .slice ua un uc, .slice va vn vc] 111)) = W3 at X Y E HNA HNB ⊢
  have hdr : Ext W3 W3.drew := extA
  replace X := X.ext hdr
  replace Y := Y.ext hdr
  replace E := E.trans hdr
  replace HNA := Lib.hid (HNA.out.ext hdr)
  replace HNB := Lib.hid (HNB.out.ext hdr)
  have hS : W3.drew.cell? ⟨xb, 0, none⟩ = some (.bool s1) ∧ W3.drew.cell? ⟨xb, 1, none⟩ = some (.slice ta tn tc) ∧ W3.drew.cell? ⟨xb, 2, none⟩ = some (.slice ba bn bc) ∧ W3.drew.cell? ⟨yb, 0, none⟩ = some (.bool s2) ∧ W3.drew.cell? ⟨yb, 1, none⟩ = some (.slice ua un uc) ∧ W3.drew.cell? ⟨yb, 2, none⟩ = some (.slice va vn vc) := ⟨X.c0, X.c1, X.c2, Y.c0, Y.c1, Y.c2⟩
  refine wp_region_heldE 99 (fun w' => w'.cell? ⟨xb, 0, none⟩ = some (.bool s1) ∧ w'.cell? ⟨xb, 1, none⟩ = some (.slice ta tn tc) ∧ w'.cell? ⟨xb, 2, none⟩ = some (.slice ba bn bc) ∧ w'.cell? ⟨yb, 0, none⟩ = some (.bool s2) ∧ w'.cell? ⟨yb, 1, none⟩ = some (.slice ua un uc) ∧ w'.cell? ⟨yb, 2, none⟩ = some (.slice va vn vc)) (by kernel_rfl) ?_
  clear hdr X Y
  generalize W3.drew = W4 at E HNA HNB hS ⊢
  ((refine eTk 0 ?_); (refine eTk 1 ?_))
  (refine wpAnyE_one (i := 2) (o := ?_) ?_ (by kernel_rfl) (fun K hK => ?_); rotate_left; (focus ((simp only [List.getElem?_toArray, List.getElem?_cons_succ, List.getElem?_cons_zero]; exact rfl))); go_simp; go_at_call 80; refine (opposite_any NB _ _ HNB.out).mono ?_; rintro e w5 ⟨v5, rfl, h5, hE⟩; go_wp2_with fail; refine hK.out _ _ ?_ (fun hHeld => ?_); rotate_left; clear hK K; (try simp only [Act.put, List.setIfInBounds_toArray, List.set_cons_zero, List.set_cons_succ]))
  rotate_left
  · exact ⟨hE.cell hS.1, hE.cell hS.2.1, hE.cell hS.2.2.1, hE.cell hS.2.2.2.1, hE.cell hS.2.2.2.2.1, hE.cell hS.2.2.2.2.2⟩
  have hS5 : w5.cell? ⟨xb, 0, none⟩ = some (.bool s1) ∧ w5.cell? ⟨xb, 1, none⟩ = some (.slice ta tn tc) ∧ w5.cell? ⟨xb, 2, none⟩ = some (.slice ba bn bc) ∧ w5.cell? ⟨yb, 0, none⟩ = some (.bool s2) ∧ w5.cell? ⟨yb, 1, none⟩ = some (.slice ua un uc) ∧ w5.cell? ⟨yb, 2, none⟩ = some (.slice va vn vc) := ⟨hE.cell hS.1, hE.cell hS.2.1, hE.cell hS.2.2.1, hE.cell hS.2.2.2.1, hE.cell hS.2.2.2.2.1, hE.cell hS.2.2.2.2.2⟩
  replace E := E.trans hE
  replace HNA := Lib.hid (HNA.out.ext hE)
  have HV5 := Lib.hid h5
  clear hS hE h5 hHeld HNB
  (refine wpAnyE_one (i := 3) (o := ?_) ?_ (by kernel_rfl) (fun K hK => ?_); rotate_left; (focus ((simp only [List.getElem?_toArray, List.getElem?_cons_succ, List.getElem?_cons_zero]; exact rfl))); go_simp; go_at_call 79; refine (sum_any NA (negN NB) _ v5 w5 HNA.out HV5.out hxa hyb).mono ?_; rintro e w6 ⟨v6, rfl, h6, _, hE⟩; go_wp2_with fail; refine hK.out _ _ ?_ (fun hHeld => ?_); rotate_left; clear hK K; (try simp only [Act.put, List.setIfInBounds_toArray, List.set_cons_zero, List.set_cons_succ]))
  rotate_left
  · exact ⟨hE.cell hS5.1, hE.cell hS5.2.1, hE.cell hS5.2.2.1, hE.cell hS5.2.2.2.1, hE.cell hS5.2.2.2.2.1, hE.cell hS5.2.2.2.2.2⟩
  have hS6 : w6.cell? ⟨xb, 0, none⟩ = some (.bool s1) ∧ w6.cell? ⟨xb, 1, none⟩ = some (.slice ta tn tc) ∧ w6.cell? ⟨xb, 2, none⟩ = some (.slice ba bn bc) ∧ w6.cell? ⟨yb, 0, none⟩ = some (.bool s2) ∧ w6.cell? ⟨yb, 1, none⟩ = some (.slice ua un uc) ∧ w6.cell? ⟨yb, 2, none⟩ = some (.slice va vn vc) := ⟨hE.cell hS5.1, hE.cell hS5.2.1, hE.cell hS5.2.2.1, hE.cell hS5.2.2.2.1, hE.cell hS5.2.2.2.2.1, hE.cell hS5.2.2.2.2.2⟩
  replace E := E.trans hE
  have HV6 := Lib.hid h6
  clear hS5 hE h6 hHeld HNA HV5
  generalize sumN NA (negN NB) = SN at *
  (refine wpAnyE_one (i := 4) (o := ?_) ?_ (by kernel_rfl) (fun K hK => ?_); rotate_left; (focus ((simp only [List.getElem?_toArray, List.getElem?_cons_succ, List.getElem?_cons_zero]; exact rfl))); go_simp; go_at_call 78; refine (sign_any SN v6 w6 HV6.out).mono ?_; rintro e w7 ⟨rfl, hE⟩; go_wp2_with fail; refine hK.out _ _ ?_ (fun hHeld => ?_); rotate_left; clear hK K; (try simp only [Act.put, List.setIfInBounds_toArray, List.set_cons_zero, List.set_cons_succ]))
  rotate_left
  · exact ⟨hE.cell hS6.1, hE.cell hS6.2.1, hE.cell hS6.2.2.1, hE.cell hS6.2.2.2.1, hE.cell hS6.2.2.2.2.1, hE.cell hS6.2.2.2.2.2⟩
  have hS7 : w7.cell? ⟨xb, 0, none⟩ = some (.bool s1) ∧ w7.cell? ⟨xb, 1, none⟩ = some (.slice ta tn tc) ∧ w7.cell? ⟨xb, 2, none⟩ = some (.slice ba bn bc) ∧ w7.cell? ⟨yb, 0, none⟩ = some (.bool s2) ∧ w7.cell? ⟨yb, 1, none⟩ = some (.slice ua un uc) ∧ w7.cell? ⟨yb, 2, none⟩ = some (.slice va vn vc) := ⟨hE.cell hS6.1, hE.cell hS6.2.1, hE.cell hS6.2.2.1, hE.cell hS6.2.2.2.1, hE.cell hS6.2.2.2.2.1, hE.cell hS6.2.2.2.2.2⟩
  replace E := E.trans hE
  clear hS6 hE hHeld
  ((refine ePu 5 ?_); (refine ePu 6 ?_))
  clear hS7
  refine wpAnyE_done (by kernel_rfl) ?_ _
  go_wp2_with fail
  go_ret2
  exact ⟨by rw [HR.out]; rfl, E⟩
end Go.Proofs.YtmndcdjcodfchaaGreatDoor
namespace Go.Proofs.YtmndcdjcodfchaaGreatDoor
open Go.RowKit
open Go.Lib (decDigits itoa)
def LenR (k : Nat) (x : Num) : Prop := (toB 1000000 x.2.1).length ≤ k ∧ (toB 1000000 x.2.2).length ≤ k
theorem LenR.mono {k l : Nat} {x : Num} (h : LenR k x) (hk : k ≤ l) : LenR l x := ⟨Nat.le_trans h.1 hk, Nat.le_trans h.2 hk⟩
end Go.Proofs.YtmndcdjcodfchaaGreatDoor
namespace Go.Proofs.YtmndcdjcodfchaaGreatDoor
open Go.RowKit
open Go.Lib (decDigits itoa)
end Go.Proofs.YtmndcdjcodfchaaGreatDoor
namespace Go.Proofs.YtmndcdjcodfchaaGreatDoor
open Go.RowKit
open Go.Lib (decDigits itoa)
def CellsT (w : World) (a : Option Addr) (l : List Txt) : Prop :=
  ∀ i, i < l.length → ∃ b off, a = some ⟨b, off, none⟩ ∧ w.cell? ⟨b, off + i, none⟩ = some (txt (l.getD i []))
theorem CellsT.ext {w w' : World} {a : Option Addr} {l : List Txt} (h : CellsT w a l) (he : Ext w w') : CellsT w' a l := fun i hi => by
  obtain ⟨b, off, h1, h2⟩ := h i hi
  exact ⟨b, off, h1, he.cell h2⟩
end Go.Proofs.YtmndcdjcodfchaaGreatDoor
namespace Go.Proofs.YtmndcdjcodfchaaGreatDoor
open Go.RowKit
open Go.Lib (decDigits itoa)
def PricesOk (prices : List Txt) : Prop := ∀ a ∈ prices, fracE a = 0 ∧ a.length ≤ 12
theorem worthT_zero (parts : List Int) (prices : List Txt) : fracT (worthQ parts prices 0) = [48] := by
  have h := (Good.of (K := 1) zero_good.fit (by omega)).2
  exact h.inj zero_good
set_option maxHeartbeats 4000000 in
set_option maxRecDepth 100000 in
theorem worth_any (parts : List Int) (prices : List Txt) (pa : Option Addr) (pc : Nat) (qa : Option Addr) (qc : Nat) (w : World) (hGl : Glob w) (hp : ∀ x ∈ parts, 0 ≤ x ∧ x ≤ 1048576) (hq : PricesOk prices) (hl : parts.length ≤ prices.length) (h4 : parts.length ≤ 4) (hc : CellsI w pa parts) (hd : CellsT w qa prices) (hm : prices.length ≤ 20) :
    Calls Tryz.prog 51 #[.slice pa parts.length pc, .slice qa prices.length qc] w fun e w' => e = .returned (.tuple #[txt (fracT (worthQ parts prices parts.length)), .int .i64 0]) ∧ Ext w w' := by
  have HC := Lib.hid hc
  have HD := Lib.hid hd
  have HGL := Lib.hid hGl
  have HP := Lib.hid hp
  have HQ := Lib.hid hq
  obtain ⟨n, hn⟩ : ∃ n, n = parts.length := ⟨_, rfl⟩
  obtain ⟨m, hmm⟩ : ∃ m, m = prices.length := ⟨_, rfl⟩
  rw [← hn, ← hmm] at hl ⊢
  rw [← hn] at h4
  rw [← hmm] at hm
  have HN := Lib.hid hn
  have HM := Lib.hid hmm
  obtain ⟨tt, htt⟩ : ∃ tt : Nat → Txt, tt = fun j => fracT (worthQ parts prices j) := ⟨_, rfl⟩
  have HTT : Hid (∀ j, fracT (worthQ parts prices j) = tt j) := fun j => by rw [htt]
  have HT0 : Hid (tt 0 = [48]) := by show _ = _; rw [← HTT.out]; exact worthT_zero parts prices
  have hen : fracT (worthQ parts prices n) = tt n := HTT.out n
  rw [hen]
  have HST : Hid (∀ j, j < n → ∃ t, mulS (itoa (parts.getD j 0)) (prices.getD j []) = (t, 0) ∧ t.length ≤ 400 ∧ addS (tt j) t = (tt (j + 1), 0) ∧ (tt j).length ≤ 400 ∧ (itoa (parts.getD j 0)).length ≤ 400 ∧ (prices.getD j []).length ≤ 400) := fun j hj => by
    obtain ⟨t, h1, h2, h3⟩ := worth_step hp hq (j := j) (by omega) (by omega) (by omega)
    have g := worth_good hp hq (j := j) (by omega) (by omega) (by omega)
    have hx := hp _ (getD_mem (d := 0) (show j < parts.length by omega))
    have hy := hq _ (getD_mem (d := []) (show j < prices.length by omega))
    rw [HTT.out, HTT.out] at h3
    rw [← HTT.out j]
    refine ⟨t, h1, h2, by rw [HTT.out j]; exact h3, frac_l400 g.ok, ?_, by omega⟩
    have := itoa_len (n := parts.getD j 0) (by omega) (by omega)
    omega
  clear hc hd hGl hp hq hn hmm htt hen
  go_enter Tryz.func51, Tryz.ntmps51
  go_wp2_with fail
  refine (whole_any 0 _ HGL.out (by omega) (by omega)).mono ?_
  rintro e w1 ⟨rfl, hE1⟩
  have hi0 : itoa 0 = tt 0 := by rw [HT0.out]; exact (Go.Lib.itoa_nonneg 0).trans (digits_small (by omega))
  rw [hi0]
  clear hi0
  go_wp2
  go_loopw [6, 14] (fun s i wr => ∃ k : Nat, k ≤ n ∧ i = .int .i64 k ∧ s = txt (tt k) ∧ Ext w wr) (fun _ i _ => n - (intOf i).toNat)
  case atStart => exact ⟨0, Nat.zero_le _, rfl, rfl, hE1⟩
  case round =>
    clear hE1
    obtain ⟨k, hk, rfl, rfl, he⟩ := hrel
    by_cases hlt : k < n
    · have hlt' : (k : Int) < (n : Int) := by omega
      obtain ⟨b1, o1, rfl, c1⟩ := HC.out.ext he k (by rw [← HN.out]; exact hlt)
      obtain ⟨b2, o2, rfl, c2⟩ := HD.out.ext he k (by rw [← HM.out]; omega)
      obtain ⟨t, ht, ht1, ht2, l1, l2, l3⟩ := HST.out k hlt
      have hxb := HP.out _ (getD_mem (d := 0) (show k < parts.length by rw [← HN.out]; exact hlt))
      generalize parts.getD k 0 = x at c1 ht hxb l2
      generalize prices.getD k [] = y at c2 ht l3
      have H1 := Lib.hid (fun W hW => whole_any x W (HGL.out.ext hW) (by omega) (by omega))
      have H2 := Lib.hid (fun W hW => mul_any (itoa x) y W (HGL.out.ext hW) l2 l3)
      have H3 := Lib.hid (fun W hW => add_any (tt k) t W (HGL.out.ext hW) l1 ht1)
      unfold ResP at H2 H3
      rw [ht] at H2
      rw [ht2] at H3
      have hkm : (k : Int) < (m : Int) := by omega
      have z1 := cell_lt c1
      have z2 := cell_lt c2
      dsimp only at z1 z2
      have E9 := he
      clear ht ht1 ht2 l1 l2 l3 hxb
      generalize tt k = s at H3 ⊢
      generalize hts : tt (k + 1) = s' at H3
      have HTS := Lib.hid hts
      clear hts
      generalize itoa x = xi at H1 H2
      have HEE := Lib.hid he
      go_wp2_with fail
      refine wp_region_heldE 99 (fun w' => w'.cell? ⟨b2, o2 + k, none⟩ = some (txt y)) (by kernel_rfl) ?_
      have hS : wr.drew.cell? ⟨b2, o2 + k, none⟩ = some (txt y) := by go_simp
      have ED : Ext w wr.drew := he.drew
      clear c1 c2 he z1 z2
      generalize wr.drew = w2 at hS ED ⊢
      have z2 := cell_lt hS
      dsimp only at z2
      ((refine eTk 0 ?_); (refine eTk 2 ?_); (refine eTk 3 ?_); (refine eTk 4 ?_); (refine eTk 5 ?_))
      (refine wpAnyE_one (i := 1) (o := ?_) ?_ (by kernel_rfl) (fun K hK => ?_); rotate_left; (focus ((simp only [List.getElem?_toArray, List.getElem?_cons_succ, List.getElem?_cons_zero]; exact rfl))); go_simp; go_at_call 53; refine (H1.out _ ED).mono ?_; rintro e w3 ⟨rfl, hE⟩; go_wp2_with fail; refine hK.out _ _ ?_ (fun hHeld => ?_); rotate_left; clear hK K; (try simp only [Act.put, List.setIfInBounds_toArray, List.set_cons_zero, List.set_cons_succ]))
      rotate_left
      · exact hE.cell hS
      (refine wpAnyE_one (i := 6) (o := ?_) ?_ (by kernel_rfl) (fun K hK => ?_); rotate_left; (focus ((simp only [List.getElem?_toArray, List.getElem?_cons_succ, List.getElem?_cons_zero]; exact rfl))); go_simp; go_at_call 76; refine (H2.out _ (ED.trans hE)).mono ?_; rintro e w4 ⟨rfl, hE2⟩; go_wp2_with fail; refine hK.out _ _ ?_ (fun hHeld => ?_); rotate_left; clear hK K; (try simp only [Act.put, List.setIfInBounds_toArray, List.set_cons_zero, List.set_cons_succ]))
      rotate_left
      · exact hE2.cell (hE.cell hS)
      ((refine ePu 7 ?_); (refine ePu 8 ?_); (refine ePu 9 ?_); (refine ePu 10 ?_); (refine ePu 11 ?_))
      refine wpAnyE_done (by kernel_rfl) ?_ _
      have E4 := (ED.trans hE).trans hE2
      clear hE hE2 ED hS hHeld z2
      go_wp2_with fail
      refine (H3.out _ E4).mono ?_
      rintro e w5 ⟨rfl, hE⟩
      have E5 := E4.trans hE
      go_wp2
      exact ⟨⟨k + 1, by omega, by go_num, by rw [HTS.out], E5⟩, by simp [intOf]; omega⟩
    · have hke : k = n := by omega
      subst hke
      have hlt' : ¬ (k : Int) < (k : Int) := by omega
      generalize hts : tt k = s
      have HTS := Lib.hid hts
      clear hts
      go_wp2
      go_ret2
      exact ⟨by rw [HTS.out]; rfl, he⟩
theorem prefix_any (a : Txt) (w : World) : Calls Tryz.prog 50 #[txt a, txt [45]] w fun e w' => e = .returned (.bool (negS a)) ∧ w' = w := by
  refine (Tryz.strings_HasPrefix ⟨a.toArray⟩ ⟨#[45]⟩ w).mono fun e w' h => ?_
  obtain ⟨h1, h2⟩ := h
  refine ⟨?_, h2⟩
  have e1 : ((⟨a.toArray⟩ : ByteArray).data.toList) = a := rfl
  have e2 : ((⟨#[45]⟩ : ByteArray).data.toList) = [45] := rfl
  rw [e1, e2, (trimP_bare a).2] at h1
  exact h1
set_option maxHeartbeats 8000000 in
set_option maxRecDepth 100000 in
theorem Bound_any {pks : List Pk} {need : List Int} {prices : List Txt} {pa : Option Addr} {pc : Nat} {na : Option Addr} {nc : Nat} {qa : Option Addr} {qc : Nat} {w : World} (ht : TaskG w pks need pa pc na nc) (hGl : Glob w) (hd : CellsT w qa prices) (hm : prices.length ≤ 20) (hq : ∀ a ∈ prices, a.length ≤ 12) (h4 : need.length ≤ 4 ∨ 16 < need.length) :
    Calls Tryz.prog 17 #[taskV pks need pa pc na nc, .slice qa prices.length qc] w fun e w' => e = .returned (.tuple #[txt (boundS pks need prices).1, .int .i64 (boundS pks need prices).2]) ∧ Ext w w' := by
  have HCK := Lib.hid (fun w' (he : Ext w w') => Check_any (ht.ext he))
  unfold taskV at HCK ⊢
  have HP := Lib.hid ht.pk
  have HD := Lib.hid ht.nd
  have HT := Lib.hid hd
  have HGL := Lib.hid hGl
  have HQ := Lib.hid hq
  obtain ⟨N, hN⟩ : ∃ N, N = pks.length := ⟨_, rfl⟩
  obtain ⟨K, hK⟩ : ∃ K, K = need.length := ⟨_, rfl⟩
  obtain ⟨M, hM⟩ : ∃ M, M = prices.length := ⟨_, rfl⟩
  obtain ⟨c, hc⟩ : ∃ c, checkS pks need = c := ⟨_, rfl⟩
  obtain ⟨r, hr⟩ : ∃ r, (boundS pks need prices).1 = r := ⟨_, rfl⟩
  obtain ⟨q, hqq⟩ : ∃ q, (boundS pks need prices).2 = q := ⟨_, rfl⟩
  rw [hr, hqq, ← hN, ← hK, ← hM]
  rw [hc, ← hN, ← hK] at HCK
  rw [← hM] at hm
  have HB : Hid (∀ t : Txt × Int, boundS pks need prices = t → r = t.1 ∧ q = t.2) := fun t h => by rw [← hr, ← hqq, h]; exact ⟨rfl, rfl⟩
  have HN := Lib.hid hN
  have HK := Lib.hid hK
  have HM := Lib.hid hM
  have HC := Lib.hid hc
  have H4 : Hid (c = 0 → K ≤ 4) := fun h => by have := (right_of (hc.trans h)).k1; omega
  clear ht hd hGl hq hN hK hM hc hr hqq h4
  have E0 : Ext w (w.alloc (.cells #[.slice pa N pc, .slice na K nc] 25)) := (Ext.refl _).alloc _
  have y1 : (w.alloc (.cells #[.slice pa N pc, .slice na K nc] 25)).cell? ⟨w.heap.size, 0, none⟩ = some (.slice pa N pc) := by go_simp
  have y2 : (w.alloc (.cells #[.slice pa N pc, .slice na K nc] 25)).cell? ⟨w.heap.size, 1, none⟩ = some (.slice na K nc) := by go_simp
  go_enter Tryz.func17, Tryz.ntmps17
  go_wp2_with fail
  refine (HCK.out _ E0).mono ?_
  rintro e w1 ⟨rfl, hE⟩
  have E1 := E0.trans hE
  have a1 := hE.cell y1
  have a2 := hE.cell y2
  have z1 := cell_lt a1
  dsimp only at z1
  clear hE E0 y1 y2 HCK
  by_cases h0 : c = 0
  rotate_left
  · have k1 : (c == 0) = false := by simp [h0]
    obtain ⟨rfl, hqc⟩ := HB.out _ (bound_a (by rw [HC.out]; exact h0))
    rw [HC.out] at hqc
    subst hqc
    go_wp2
    go_ret2
    exact ⟨rfl, E1⟩
  subst h0
  have h4 := H4.out rfl
  by_cases hMK : M = K
  rotate_left
  · have k1 : ((M : Int) == (K : Int)) = false := by simp; omega
    have k2 : ¬ (M : Int) = (K : Int) := by omega
    obtain ⟨rfl, rfl⟩ := HB.out _ (bound_b HC.out (by rw [← HM.out, ← HK.out]; exact hMK))
    go_wp2
    go_ret2
    exact ⟨rfl, E1⟩
  subst hMK
  have HMK : Hid (prices.length = need.length) := by show _ = _; rw [← HM.out, ← HK.out]
  have HR := Lib.hid (right_of HC.out)
  have hN64 : N ≤ 64 := by have := HR.out.pl; have := HN.out; omega
  go_wp2
  go_loopw [28] (fun t wr => ∃ k : Nat, k ≤ M ∧ t = .int .i64 k ∧ Hid (∀ j, j < k → prE (prices.getD j []) = 0) ∧ Ext w1 wr) (fun t _ => M - (intOf t).toNat)
  case atStart => exact ⟨0, Nat.zero_le _, rfl, fun j hj => absurd hj (Nat.not_lt_zero j), Ext.refl _⟩
  case round =>
    obtain ⟨k, hk, rfl, hz, he⟩ := hrel
    by_cases hlt : k < M
    · have hlt' : (k : Int) < (M : Int) := by omega
      have EK := E1.trans he
      obtain ⟨b2, o2, rfl, c2⟩ := HT.out.ext EK k (by rw [← HM.out]; exact hlt)
      have hyl := HQ.out _ (getD_mem (d := []) (show k < prices.length by rw [← HM.out]; exact hlt))
      have hbad : prE (prices.getD k []) ≠ 0 → r = [] ∧ q = prE (prices.getD k []) := fun h => by
        have h2 := price_hit hz.out (by rw [← HM.out]; exact hlt) rfl h
        have := HB.out _ (bound_c HC.out HMK.out (by rw [h2]; exact h))
        rw [h2] at this
        exact this
      have hnext : prE (prices.getD k []) = 0 → ∀ j, j < k + 1 → prE (prices.getD j []) = 0 := fun h j hj => by
        rcases Nat.lt_or_eq_of_le (Nat.le_of_lt_succ hj) with h2 | rfl
        · exact hz.out j h2
        · exact h
      generalize prices.getD k [] = y at c2 hyl hbad hnext
      have HBAD := Lib.hid hbad
      have HNX := Lib.hid hnext
      have z2 := cell_lt c2
      dsimp only at z2
      have H1 := Lib.hid (fun W hW => check_any y W (HGL.out.ext hW) (by omega))
      have H2 := Lib.hid (fun W => prefix_any y W)
      clear hbad hnext hz hyl
      obtain ⟨f, hf⟩ : ∃ f, fracE y = f := ⟨_, rfl⟩
      obtain ⟨s, hs⟩ : ∃ s, negS y = s := ⟨_, rfl⟩
      rw [hf] at H1
      rw [hs] at H2
      have HF := Lib.hid (show _ ∧ _ from ⟨hf, hs⟩)
      clear hf hs
      go_wp2_with fail
      refine (H1.out _ EK).mono ?_
      rintro e w2 ⟨rfl, hE⟩
      have E2 := he.trans hE
      have E2' := EK.trans hE
      by_cases hf0 : f = 0
      · subst hf0
        cases s
        · have HG := Lib.hid (HNX.out (prE_c HF.out.1 HF.out.2))
          go_wp2_with fail
          refine (H2.out _).mono ?_
          rintro e w3 ⟨rfl, rfl⟩
          go_wp2
          exact ⟨⟨k + 1, by omega, by go_num, HG.out, E2⟩, by simp [intOf]; omega⟩
        · have hp2 := prE_b HF.out.1 HF.out.2
          obtain ⟨rfl, hqc⟩ := HBAD.out (by rw [hp2]; simp)
          rw [hp2] at hqc
          subst hqc
          clear hp2
          go_wp2_with fail
          refine (H2.out _).mono ?_
          rintro e w3 ⟨rfl, rfl⟩
          go_wp2
          go_ret2
          exact ⟨rfl, E2'⟩
      · have hp2 := prE_a (a := y) (by rw [HF.out.1]; exact hf0)
        have k1 : ((f : Int) == 0) = false := by simp; omega
        have k2 : ¬ (f : Int) = 0 := by omega
        obtain ⟨rfl, hqc⟩ := HBAD.out (by rw [hp2, HF.out.1]; exact k2)
        rw [hp2, HF.out.1] at hqc
        subst hqc
        clear hp2
        go_wp2
        go_ret2
        exact ⟨rfl, E2'⟩
    · have hke : k = M := by omega
      subst hke
      have hlt' : ¬ (k : Int) < (k : Int) := by omega
      have HZ : Hid (priceE prices = 0) := by show _ = _; exact price_end (by rw [← HM.out]; exact hz.out)
      have HPO : Hid (PricesOk prices) := fun a ha => by
        obtain ⟨i, hi, e⟩ := List.mem_iff_getElem.1 ha
        have := hz.out i (by rw [HM.out]; exact hi)
        rw [getD_of hi, e] at this
        exact ⟨prE_ok this, HQ.out a ha⟩
      have a1 := he.cell a1
      have a2 := he.cell a2
      have z1 := cell_lt a1
      dsimp only at z1
      clear hz
      have E2 := E1.trans he
      clear he
      generalize wr = W at a1 a2 z1 E2 ⊢
      go_wp2
      go_loopw [43] (fun t wz => ∃ j : Nat, j ≤ N ∧ t = .int .i64 j ∧ Hid (∀ i, i < j → overB prices (pks.getD i pk0) = false) ∧ Ext W wz) (fun t _ => N - (intOf t).toNat)
      case atStart => exact ⟨0, Nat.zero_le _, rfl, fun j hj => absurd hj (Nat.not_lt_zero j), Ext.refl _⟩
      case round =>
        obtain ⟨j, hj, rfl, hz, he⟩ := hrel
        have EK := E2.trans he
        by_cases hlt : j < N
        · have hlt2 : (j : Int) < (N : Int) := by omega
          have hjp : j < pks.length := by rw [← HN.out]; exact hlt
          obtain ⟨b3, o3, v3, rfl, c1, ⟨ai, ci, rfl, cs, _, _⟩, c2, c3⟩ := (HP.out.ext EK) j hjp
          have hpl := HR.out.parts _ (getD_mem (d := pk0) hjp)
          have hpn := HR.out.num _ (getD_mem (d := pk0) hjp)
          have hpp := HR.out.price _ (getD_mem (d := pk0) hjp)
          have hbad : overB prices (pks.getD j pk0) = true → r = [] ∧ q = 15 := fun h => HB.out _ (bound_d HC.out HMK.out HZ.out hjp h)
          have hnext : overB prices (pks.getD j pk0) = false → ∀ i, i < j + 1 → overB prices (pks.getD i pk0) = false := fun h i hi => by
            rcases Nat.lt_or_eq_of_le (Nat.le_of_lt_succ hi) with h2 | rfl
            · exact hz.out i h2
            · exact h
          generalize pks.getD j pk0 = p at c1 c2 c3 cs hpl hpn hpp hbad hnext
          rw [← HK.out] at hpl
          have HX := Lib.hid (over_cmp (p := p) hpn hpp HPO.out (by rw [hpl, HM.out]; exact Nat.le_refl _) (by rw [hpl]; exact h4))
          have HW := Lib.hid (fun V (hV : Ext wr V) => worth_any p.parts prices ai ci qa qc V (HGL.out.ext (EK.trans hV)) hpn HPO.out (by rw [hpl, HM.out]; exact Nat.le_refl _) (by rw [hpl]; exact h4) (cs.ext hV) (HT.out.ext (EK.trans hV)) (by rw [← HM.out]; exact hm))
          rw [hpl, ← HM.out] at HW
          rw [hpl] at HX c1
          have HBAD := Lib.hid hbad
          have HNX := Lib.hid hnext
          clear hbad hnext hz hpl hpn cs
          obtain ⟨z, x1, x2, x3, x4, x5, x6, x7⟩ := HX.out
          generalize fracT (worthQ p.parts prices k) = wt at HW x1 x2 x3 x4 x6
          have HCM := Lib.hid (fun V (hV : Ext wr V) => compareF_any wt (itoa p.price) V (HGL.out.ext (EK.trans hV)) x6 x7)
          unfold IntP at HCM
          rw [x1] at HCM
          have HWH := Lib.hid (fun V (hV : Ext wr V) => whole_any p.price V (HGL.out.ext (EK.trans hV)) (by omega) (by omega))
          generalize itoa p.price = pt at HCM HWH
          have H3 := Lib.hid x3
          clear x1 x2 x3 x4 x5 x6 x7 HX hpp
          have a1' := he.cell a1
          have z2 := cell_lt a1'
          have z3 := cell_lt c1
          dsimp only at z2 z3
          have E5 : Ext wr (wr.alloc (.cells #[.slice ai k ci, .int .i64 p.price, .int .i64 p.most] 62)) := extA
          have d0 : (wr.alloc (.cells #[.slice ai k ci, .int .i64 p.price, .int .i64 p.most] 62)).cell? ⟨wr.heap.size, 0, none⟩ = some (.slice ai k ci) := by go_simp
          have d1 : (wr.alloc (.cells #[.slice ai k ci, .int .i64 p.price, .int .i64 p.most] 62)).cell? ⟨wr.heap.size, 1, none⟩ = some (.int .i64 p.price) := by go_simp
          go_wp2_with fail
          refine (HW.out _ E5).mono ?_
          rintro e w4 ⟨rfl, hE⟩
          have E6 := E5.trans hE
          have d1 := hE.cell d1
          have z4 := cell_lt d1
          dsimp only at z4
          obtain ⟨lb, hlb⟩ : ∃ lb, lb = wr.heap.size := ⟨_, rfl⟩
          rw [← hlb] at d1 z4 ⊢
          clear hE d0 E5 hlb c1 c2 c3
          go_wp2_with fail
          refine (HWH.out _ E6).mono ?_
          rintro e w5 ⟨rfl, hE⟩
          have E7 := E6.trans hE
          clear hE
          go_wp2_with fail
          refine (HCM.out _ E7).mono ?_
          rintro e w6 ⟨rfl, hE⟩
          have E8 := E7.trans hE
          clear hE
          by_cases hz0 : 0 < z
          · obtain ⟨rfl, rfl⟩ := HBAD.out (by rw [H3.out]; exact decide_eq_true hz0)
            go_wp2
            go_ret2
            exact ⟨rfl, EK.trans E8⟩
          · have HG := Lib.hid (HNX.out (by rw [H3.out]; exact decide_eq_false hz0))
            go_wp2
            exact ⟨⟨j + 1, by omega, by go_num, HG.out, he.trans E8⟩, by simp [intOf]; omega⟩
        · have hje : j = N := by omega
          subst hje
          have hlt2 : ¬ (j : Int) < (j : Int) := by omega
          obtain ⟨hr2, hq2⟩ := HB.out _ (bound_e HC.out HMK.out HZ.out (by rw [← HN.out]; exact hz.out))
          have a2' := he.cell a2
          have z2 := cell_lt a2'
          dsimp only at z2
          have HW := Lib.hid (worth_any need prices na nc qa qc wr (HGL.out.ext EK) HR.out.nd HPO.out (by rw [HMK.out]; exact Nat.le_refl _) (by rw [← HK.out]; exact h4) (HD.out.ext EK) (HT.out.ext EK) (by rw [← HM.out]; exact hm))
          dsimp only at hr2 hq2
          rw [← hr2, ← HM.out, ← HK.out] at HW
          subst hq2
          clear hr2 hz
          go_wp2_with fail
          refine HW.out.mono ?_
          rintro e w4 ⟨rfl, hE⟩
          go_wp2
          go_ret2
          exact ⟨rfl, EK.trans hE⟩
end Go.Proofs.YtmndcdjcodfchaaGreatDoor
namespace Go.Proofs.YtmndcdjcodfchaaGreatDoor
open Go.RowKit
theorem rCount_any (x : Int) (w : World) : Calls Tryz.prog 66 #[.int .i64 x] w fun e w' => e = .returned (.bool (!isNeg x)) ∧ Ext w w' := by
  have HX : Hid ((0 ≤ x ∧ x ≤ 1048576 → isNeg x = false) ∧ (¬ (0 ≤ x ∧ x ≤ 1048576) → isNeg x = true)) := ⟨fun h => isNeg_iff.2 h, fun h => by
    cases hx : isNeg x
    · exact absurd (isNeg_iff.1 hx) h
    · rfl⟩
  by_cases h1 : 0 ≤ x
  · by_cases h2 : x ≤ 1048576
    · go_enter Tryz.func66, Tryz.ntmps66
      go_wp2
      go_ret
      exact ⟨ret_bool (by rw [HX.out.1 ⟨h1, h2⟩]; simp), Ext.refl _⟩
    · go_enter Tryz.func66, Tryz.ntmps66
      go_wp2
      go_ret
      exact ⟨ret_bool (by rw [HX.out.2 (by omega)]; simp), Ext.refl _⟩
  · go_enter Tryz.func66, Tryz.ntmps66
    go_wp2
    go_ret
    exact ⟨ret_bool (by rw [HX.out.2 (by omega)]; simp), Ext.refl _⟩
theorem any_part {l : List Int} {k : Nat} (h : k < l.length) (hk : isNeg (l.getD k 0) = true) : l.any isNeg = true := List.any_eq_true.2 ⟨_, getD_mem h, hk⟩
theorem any_none {l : List Int} (h : ∀ k, k < l.length → isNeg (l.getD k 0) = false) : l.any isNeg = false := by
  rw [List.any_eq_false]
  intro x hx
  obtain ⟨i, hi, e⟩ := List.mem_iff_getElem.1 hx
  have := h i hi
  rw [getD_of hi, e] at this
  rw [this]; simp
theorem parcel_e {K : Nat} {p : Pk} (h : p.parts.length = K) (h2 : p.parts.any isNeg = false) : parcelS K p = if [p.price, p.most].any isNeg = true then 2 else 0 := by
  unfold parcelS; rw [if_neg (fun h3 => h3 h), if_neg (by rw [h2]; simp)]
set_option maxHeartbeats 4000000 in
theorem rParcel_any (p : Pk) (K : Nat) (aa : Option Addr) (ac : Nat) (w : World) (hc : CellsI w aa p.parts) (hK : K ≤ 1000) :
    Calls Tryz.prog 67 #[.agg #[.slice aa p.parts.length ac, .int .i64 p.price, .int .i64 p.most], .int .i64 (K : Int)] w fun e w' => e = .returned (.int .i64 (parcelS K p)) ∧ Ext w w' := by
  have HC := Lib.hid hc
  obtain ⟨r, hr⟩ : ∃ r, parcelS K p = r := ⟨_, rfl⟩
  obtain ⟨L, hL⟩ : ∃ L, L = p.parts.length := ⟨_, rfl⟩
  rw [hr, ← hL]
  have HR := Lib.hid hr
  have HL := Lib.hid hL
  have E0 : Ext w (w.alloc (.cells #[.slice aa L ac, .int .i64 p.price, .int .i64 p.most] 79)) := extA
  have x0 : (w.alloc (.cells #[.slice aa L ac, .int .i64 p.price, .int .i64 p.most] 79)).cell? ⟨w.heap.size, 0, none⟩ = some (.slice aa L ac) := by go_simp
  have x1 : (w.alloc (.cells #[.slice aa L ac, .int .i64 p.price, .int .i64 p.most] 79)).cell? ⟨w.heap.size, 1, none⟩ = some (.int .i64 p.price) := by go_simp
  have x2 : (w.alloc (.cells #[.slice aa L ac, .int .i64 p.price, .int .i64 p.most] 79)).cell? ⟨w.heap.size, 2, none⟩ = some (.int .i64 p.most) := by go_simp
  clear hc hr hL
  go_enter Tryz.func67, Tryz.ntmps67
  by_cases hLK : L = K
  rotate_left
  · have k1 : ((L : Int) == (K : Int)) = false := by simp; omega
    have k2 : ¬ (L : Int) = (K : Int) := by omega
    obtain rfl : r = 8 := by rw [← HR.out]; exact parcel_a (by rw [← HL.out]; exact hLK)
    go_wp2
    go_ret
    exact ⟨rfl, E0⟩
  subst hLK
  go_wp2
  generalize (w.alloc (.cells #[.slice aa L ac, .int .i64 p.price, .int .i64 p.most] 79)) = W at E0 x0 x1 x2 ⊢
  go_loopw [5] (fun i wr => ∃ k : Nat, k ≤ L ∧ i = .int .i64 k ∧ Hid (∀ j, j < k → isNeg (p.parts.getD j 0) = false) ∧ Ext W wr) (fun i _ => L - (intOf i).toNat)
  case atStart => exact ⟨0, Nat.zero_le _, rfl, fun j hj => absurd hj (Nat.not_lt_zero j), Ext.refl _⟩
  case round =>
    obtain ⟨k, hk, rfl, hz, he⟩ := hrel
    by_cases hlt : k < L
    · have hlt' : (k : Int) < (L : Int) := by omega
      have EK := E0.trans he
      obtain ⟨b1, o1, rfl, c1⟩ := HC.out.ext EK k (by rw [← HL.out]; exact hlt)
      have hb : isNeg (p.parts.getD k 0) = true → r = 2 := fun h => by rw [← HR.out]; exact parcel_b HL.out.symm (any_part (by rw [← HL.out]; exact hlt) h)
      have hn : isNeg (p.parts.getD k 0) = false → ∀ j, j < k + 1 → isNeg (p.parts.getD j 0) = false := fun h j hj => by
        rcases Nat.lt_or_eq_of_le (Nat.le_of_lt_succ hj) with h2 | rfl
        · exact hz.out j h2
        · exact h
      generalize p.parts.getD k 0 = x at c1 hb hn
      have HB := Lib.hid hb
      have HN := Lib.hid hn
      have x0 := he.cell x0
      have z0 := cell_lt x0
      have z1 := cell_lt c1
      dsimp only at z0 z1
      clear hb hn hz
      go_wp2_with fail
      refine (rCount_any x _).mono ?_
      rintro e w2 ⟨rfl, hE⟩
      have E2 := he.trans hE
      cases hx : isNeg x
      · have HG := Lib.hid (HN.out hx)
        clear hx
        go_wp2
        exact ⟨⟨k + 1, by omega, by go_num, HG.out, E2⟩, by simp [intOf]; omega⟩
      · obtain rfl := HB.out hx
        clear hx
        go_wp2
        go_ret
        exact ⟨rfl, EK.trans hE⟩
    · have hke : k = L := by omega
      subst hke
      have hlt' : ¬ (k : Int) < (k : Int) := by omega
      have HP : Hid (r = if [p.price, p.most].any isNeg = true then 2 else 0) := by
        show _ = _
        rw [← HR.out]
        exact parcel_e HL.out.symm (any_none (by rw [← HL.out]; exact hz.out))
      have x1 := he.cell x1
      have x2 := he.cell x2
      have z0 := cell_lt x1
      dsimp only at z0
      have HP2 : Hid (r = if (isNeg p.price || isNeg p.most) = true then 2 else 0) := by
        show _ = _
        rw [HP.out]
        simp only [List.any_cons, List.any_nil, Bool.or_false]
      generalize p.price = a at x1 HP2
      generalize p.most = b at x2 HP2
      clear hz HP
      go_wp2_with fail
      refine (rCount_any a _).mono ?_
      rintro e w2 ⟨rfl, hE⟩
      have E2 := (E0.trans he).trans hE
      have x2 := hE.cell x2
      have z1 := cell_lt x2
      dsimp only at z1
      clear hE
      cases ha : isNeg a
      · have HA := Lib.hid ha
        clear ha
        go_wp2_with fail
        refine (rCount_any b _).mono ?_
        rintro e w3 ⟨rfl, hE⟩
        cases hb : isNeg b
        · obtain rfl : r = 0 := by rw [HP2.out, HA.out, hb]; rfl
          clear hb
          go_wp2
          go_ret
          exact ⟨rfl, E2.trans hE⟩
        · obtain rfl : r = 2 := by rw [HP2.out, HA.out, hb]; rfl
          clear hb
          go_wp2
          go_ret
          exact ⟨rfl, E2.trans hE⟩
      · obtain rfl : r = 2 := by rw [HP2.out, ha]; rfl
        clear ha
        go_wp2
        go_ret
        exact ⟨rfl, E2⟩
set_option maxHeartbeats 8000000 in
set_option maxRecDepth 100000 in
theorem rCheck_any {pks : List Pk} {need : List Int} {pa : Option Addr} {pc : Nat} {na : Option Addr} {nc : Nat} {w : World} (ht : TaskG w pks need pa pc na nc) :
    Calls Tryz.prog 24 #[taskV pks need pa pc na nc] w fun e w' => e = .returned (.int .i64 (checkS pks need)) ∧ Ext w w' := by
  unfold taskV
  obtain ⟨r, hr⟩ : ∃ r, checkS pks need = r := ⟨_, rfl⟩
  rw [hr]
  have HR := Lib.hid hr
  have HP := Lib.hid ht.pk
  have HC := Lib.hid ht.nd
  obtain ⟨N, hN⟩ : ∃ N, N = pks.length := ⟨_, rfl⟩
  obtain ⟨K, hK⟩ : ∃ K, K = need.length := ⟨_, rfl⟩
  rw [← hN, ← hK]
  have HN := Lib.hid hN
  have HK := Lib.hid hK
  clear ht hr hN hK
  have E0 : Ext w (w.alloc (.cells #[.slice pa N pc, .slice na K nc] 30)) := (Ext.refl _).alloc _
  have y1 : (w.alloc (.cells #[.slice pa N pc, .slice na K nc] 30)).cell? ⟨w.heap.size, 0, none⟩ = some (.slice pa N pc) := by go_simp
  have y2 : (w.alloc (.cells #[.slice pa N pc, .slice na K nc] 30)).cell? ⟨w.heap.size, 1, none⟩ = some (.slice na K nc) := by go_simp
  by_cases h0 : K = 0
  · have hr : r = 13 := by rw [← HR.out]; unfold checkS; rw [if_pos (by rw [← HK.out]; exact h0)]
    subst h0
    subst hr
    go_enter Tryz.func24, Tryz.ntmps24
    go_wp2
    go_ret
    exact ⟨rfl, E0⟩
  have k1 : ((K : Int) == 0) = false := by simp; omega
  by_cases h1 : 16 < K
  · have k2 : (16 : Int) < (K : Int) := by omega
    have hr : r = 5 := by rw [← HR.out]; unfold checkS; rw [if_neg (by rw [← HK.out]; exact h0), if_pos (by rw [← HK.out]; exact h1)]
    subst hr
    go_enter Tryz.func24, Tryz.ntmps24
    go_wp2
    go_ret
    exact ⟨rfl, E0⟩
  have k2 : ¬ (16 : Int) < (K : Int) := by omega
  have HC0 : Hid (need.any isNeg = true → r = 2) := fun h => by rw [← HR.out]; unfold checkS; rw [if_neg (by rw [← HK.out]; exact h0), if_neg (by rw [← HK.out]; exact h1), if_pos h]
  go_enter Tryz.func24, Tryz.ntmps24
  go_wp2
  generalize w.alloc (.cells #[.slice pa N pc, .slice na K nc] 30) = w0 at E0 y1 y2 ⊢
  go_loopw [3] (fun i wr => ∃ k : Nat, k ≤ K ∧ i = .int .i64 k ∧ Hid (∀ j, j < k → isNeg (need.getD j 0) = false) ∧ Ext w0 wr) (fun i _ => K - (intOf i).toNat)
  case atStart => exact ⟨0, Nat.zero_le _, rfl, fun j hj => absurd hj (Nat.not_lt_zero j), Ext.refl _⟩
  case round =>
    obtain ⟨k, hk, rfl, hz, he⟩ := hrel
    have EK := E0.trans he
    by_cases hlt : k < K
    · have hlt' : (k : Int) < (K : Int) := by omega
      obtain ⟨b1, o1, rfl, c1⟩ := HC.out.ext EK k (by rw [← HK.out]; exact hlt)
      have hb : isNeg (need.getD k 0) = true → r = 2 := fun h => HC0.out (any_part (by rw [← HK.out]; exact hlt) h)
      have hn : isNeg (need.getD k 0) = false → ∀ j, j < k + 1 → isNeg (need.getD j 0) = false := fun h j hj => by
        rcases Nat.lt_or_eq_of_le (Nat.le_of_lt_succ hj) with h2 | rfl
        · exact hz.out j h2
        · exact h
      generalize need.getD k 0 = x at c1 hb hn
      have HB := Lib.hid hb
      have HNX := Lib.hid hn
      have y2 := he.cell y2
      have z0 := cell_lt y2
      have z1 := cell_lt c1
      dsimp only at z0 z1
      clear hb hn hz
      go_wp2_with fail
      refine (rCount_any x _).mono ?_
      rintro e w2 ⟨rfl, hE⟩
      have E2 := he.trans hE
      cases hx : isNeg x
      · have HG := Lib.hid (HNX.out hx)
        clear hx
        go_wp2
        exact ⟨⟨k + 1, by omega, by go_num, HG.out, E2⟩, by simp [intOf]; omega⟩
      · obtain rfl := HB.out hx
        clear hx
        go_wp2
        go_ret
        exact ⟨rfl, EK.trans hE⟩
    · have hke : k = K := by omega
      subst hke
      have hlt' : ¬ (k : Int) < (k : Int) := by omega
      have HA : Hid (need.any isNeg = false) := any_none (by rw [← HK.out]; exact hz.out)
      have y1 := he.cell y1
      have y2 := he.cell y2
      have z0 := cell_lt y1
      dsimp only at z0
      clear hz he HC0
      generalize wr = w1 at y1 y2 z0 EK ⊢
      by_cases h3 : 64 < N
      · have k3 : (64 : Int) < (N : Int) := by omega
        have hr : r = 5 := by rw [← HR.out]; unfold checkS; rw [if_neg (by rw [← HK.out]; exact h0), if_neg (by rw [← HK.out]; exact h1), if_neg (by rw [HA.out]; simp), if_pos (by rw [← HN.out]; exact h3)]
        subst hr
        go_wp2
        go_ret
        exact ⟨rfl, EK⟩
      have k3 : ¬ (64 : Int) < (N : Int) := by omega
      have HT : Hid (taskE k pks = r) := by
        show _ = _
        rw [← HR.out, check_tail (by rw [← HK.out]; exact h0) (by rw [← HK.out]; exact h1) HA.out (by rw [← HN.out]; exact h3), ← HK.out]
      go_wp2
      go_loopw [4] (fun i wr => ∃ j : Nat, j ≤ N ∧ i = .int .i64 j ∧ Hid (∀ t, t < j → parcelS k (pks.getD t pk0) = 0) ∧ Ext w1 wr) (fun i _ => N - (intOf i).toNat)
      case atStart => exact ⟨0, Nat.zero_le _, rfl, fun j hj => absurd hj (Nat.not_lt_zero j), Ext.refl _⟩
      case round =>
        obtain ⟨j, hj, rfl, hz, he⟩ := hrel
        have EJ := EK.trans he
        by_cases hlt2 : j < N
        · have hlt2' : (j : Int) < (N : Int) := by omega
          obtain ⟨b3, o3, v3, rfl, c1, ⟨ai, ci, rfl, cs, _, _⟩, c2, c3⟩ := (HP.out.ext EJ) j (by rw [← HN.out]; exact hlt2)
          have hstep : ∀ e, parcelS k (pks.getD j pk0) = e → e ≠ 0 → r = e := fun e h1 h2 => by rw [← HT.out]; exact first_hit hz.out (by rw [← HN.out]; exact hlt2) h1 h2
          have hnext : parcelS k (pks.getD j pk0) = 0 → ∀ t, t < j + 1 → parcelS k (pks.getD t pk0) = 0 := fun h t ht => by
            rcases Nat.lt_or_eq_of_le (Nat.le_of_lt_succ ht) with h2 | rfl
            · exact hz.out t h2
            · exact h
          generalize pks.getD j pk0 = p at c1 c2 c3 cs hstep hnext
          have HST := Lib.hid hstep
          have HNX := Lib.hid hnext
          have HPA := Lib.hid (fun W (hW : Ext wr W) => rParcel_any p k ai ci W (cs.ext hW) (by omega))
          obtain ⟨L, hL⟩ : ∃ L, L = p.parts.length := ⟨_, rfl⟩
          rw [← hL] at HPA c1
          obtain ⟨q, hq⟩ : ∃ q, parcelS k p = q := ⟨_, rfl⟩
          rw [hq] at HPA HST HNX
          have y1 := he.cell y1
          have y2 := he.cell y2
          clear hstep hnext hz cs hL hq
          go_wp2_with fail
          refine wp_region_heldE 99 (fun w' => w'.cell? ⟨w.heap.size, 0, none⟩ = some (.slice (some ⟨b3, o3, none⟩) N pc) ∧ w'.cell? ⟨w.heap.size, 1, none⟩ = some (.slice na k nc) ∧ w'.cell? ⟨b3, o3 + j * 3, none⟩ = some (.slice ai L ci) ∧ w'.cell? ⟨b3, o3 + j * 3 + 1, none⟩ = some (.int .i64 p.price) ∧ w'.cell? ⟨b3, o3 + j * 3 + 2, none⟩ = some (.int .i64 p.most)) (by kernel_rfl) ?_
          have ED : Ext wr wr.drew := (Ext.refl _).drew
          have hS := show _ ∧ _ ∧ _ ∧ _ ∧ _ from ⟨ED.cell y1, ED.cell y2, ED.cell c1, ED.cell c2, ED.cell c3⟩
          clear y1 y2 c1 c2 c3
          generalize wr.drew = w2 at hS ED ⊢
          obtain ⟨s0, s1, s2, s3, s4⟩ := hS
          have z0 := cell_lt s0
          have z1 := cell_lt s2
          dsimp only at z0 z1
          have hS := show _ ∧ _ ∧ _ ∧ _ ∧ _ from ⟨s0, s1, s2, s3, s4⟩
          ((refine eTk 0 ?_); (refine eTk 1 ?_); (refine eTk 2 ?_); (refine eTk 3 ?_); (refine eTk 4 ?_); (refine eTk 5 ?_); (refine eTk 6 ?_); (refine eTk 7 ?_))
          (refine wpAnyE_one (i := 8) (o := ?_) ?_ (by kernel_rfl) (fun K hK => ?_); rotate_left; (focus ((simp only [List.getElem?_toArray, List.getElem?_cons_succ, List.getElem?_cons_zero]; exact rfl))); go_simp; go_at_call 67; refine (HPA.out _ ED).mono ?_; rintro e w3 ⟨rfl, hE⟩; go_wp2_with fail; refine hK.out _ _ ?_ (fun hHeld => ?_); rotate_left; clear hK K; (try simp only [Act.put, List.setIfInBounds_toArray, List.set_cons_zero, List.set_cons_succ]))
          rotate_left
          · exact ⟨hE.cell s0, hE.cell s1, hE.cell s2, hE.cell s3, hE.cell s4⟩
          ((refine ePu 9 ?_))
          refine wpAnyE_done (by kernel_rfl) ?_ _
          have E3 := he.trans (ED.trans hE)
          have E3' := EJ.trans (ED.trans hE)
          clear s0 s1 s2 s3 s4 z0 z1 hHeld hE ED hS
          by_cases hq0 : q = 0
          · subst hq0
            have HG := Lib.hid (HNX.out rfl)
            go_wp2
            exact ⟨⟨j + 1, by omega, by go_num, HG.out, E3⟩, by simp [intOf]; omega⟩
          · have k9 : (q == 0) = false := by simp [hq0]
            obtain rfl := HST.out q rfl hq0
            go_wp2
            go_ret
            exact ⟨rfl, E3'⟩
        · have hje : j = N := by omega
          subst hje
          have hlt2' : ¬ (j : Int) < (j : Int) := by omega
          obtain rfl : r = 0 := by
            rw [← HT.out]
            exact first_end (by rw [← HN.out]; exact hz.out)
          have y1 := he.cell y1
          have z0 := cell_lt y1
          dsimp only at z0
          go_wp2
          go_ret
          exact ⟨rfl, EJ⟩
end Go.Proofs.YtmndcdjcodfchaaGreatDoor
namespace Go.Proofs.YtmndcdjcodfchaaGreatDoor
open Go.RowKit
set_option maxHeartbeats 4000000 in
theorem rGiven_any {pks : List Pk} {need order : List Int} {pa : Option Addr} {pc : Nat} {na : Option Addr} {nc : Nat} {oa : Option Addr} {oc : Nat} {w : World} (ht : TaskG w pks need pa pc na nc) (ho : CellsI w oa order) (hol : order.length ≤ maxLen) :
    Calls Tryz.prog 61 #[taskV pks need pa pc na nc, .slice oa order.length oc] w fun e w' => e = .returned (.int .i64 (givenS pks need order)) ∧ Ext w w' := by
  have HCK := Lib.hid (fun w' (he : Ext w w') => rCheck_any (ht.ext he))
  unfold taskV at HCK ⊢
  unfold maxLen at hol
  obtain ⟨r, hr⟩ : ∃ r, givenS pks need order = r := ⟨_, rfl⟩
  rw [hr]
  have HR := Lib.hid hr
  have HP := Lib.hid ht.pk
  have HO := Lib.hid ho
  obtain ⟨N, hN⟩ : ∃ N, N = pks.length := ⟨_, rfl⟩
  obtain ⟨K, hK⟩ : ∃ K, K = need.length := ⟨_, rfl⟩
  obtain ⟨M, hM⟩ : ∃ M, M = order.length := ⟨_, rfl⟩
  rw [← hN, ← hK] at HCK
  rw [← hN, ← hK, ← hM]
  rw [← hM] at hol
  obtain ⟨c, hc⟩ : ∃ c, checkS pks need = c := ⟨_, rfl⟩
  rw [hc] at HCK
  have HC := Lib.hid hc
  have HN := Lib.hid hN
  have HM := Lib.hid hM
  clear ht hr hN hK ho hM hc
  have E0 : Ext w (w.alloc (.cells #[.slice pa N pc, .slice na K nc] 30)) := (Ext.refl _).alloc _
  have y1 : (w.alloc (.cells #[.slice pa N pc, .slice na K nc] 30)).cell? ⟨w.heap.size, 0, none⟩ = some (.slice pa N pc) := by go_simp
  have y2 : (w.alloc (.cells #[.slice pa N pc, .slice na K nc] 30)).cell? ⟨w.heap.size, 1, none⟩ = some (.slice na K nc) := by go_simp
  go_enter Tryz.func61, Tryz.ntmps61
  go_wp2_with fail
  refine (HCK.out _ E0).mono ?_
  rintro e w1 ⟨rfl, hE⟩
  have E1 := E0.trans hE
  have a1 := hE.cell y1
  clear hE E0 y1 y2 HCK
  by_cases h0 : c = 0
  rotate_left
  · have k1 : (c == 0) = false := by simp [h0]
    obtain rfl : r = c := by rw [← HR.out]; exact given_bad HC.out h0
    go_wp2
    go_ret
    exact ⟨rfl, E1⟩
  subst h0
  by_cases h1 : M = N
  rotate_left
  · have k1 : ((M : Int) == (N : Int)) = false := by simp; omega
    have k2 : ¬ (M : Int) = (N : Int) := by omega
    obtain rfl : r = 8 := by rw [← HR.out]; exact given_len HC.out (by rw [← HM.out, ← HN.out]; exact h1)
    go_wp2
    go_ret
    exact ⟨rfl, E1⟩
  subst h1
  have h2 : givenS pks need order = if (List.range order.length).any (overS pks order) = true then 2 else 0 := given_num HC.out (by rw [← HM.out, ← HN.out])
  rw [HR.out] at h2
  have HR2 := Lib.hid h2
  clear h2
  go_wp2
  go_loopw [6] (fun t wr => ∃ k : Nat, k ≤ M ∧ t = .int .i64 k ∧ Hid (∀ j, j < k → overS pks order j = false) ∧ Ext w1 wr) (fun t _ => M - (intOf t).toNat)
  case atStart => exact ⟨0, Nat.zero_le _, rfl, fun j hj => absurd hj (Nat.not_lt_zero j), Ext.refl _⟩
  case round =>
    obtain ⟨k, hkN, rfl, hz, he⟩ := hrel
    have EK := E1.trans he
    by_cases hlt : k < M
    · have hlt' : (k : Int) < (M : Int) := by omega
      obtain ⟨b, off, v, rfl, c1, _, c2, c3⟩ := (HP.out.ext EK) k (by rw [← HN.out]; exact hlt)
      obtain ⟨b2, off2, rfl, c4⟩ := HO.out.ext EK k (by rw [← HM.out]; exact hlt)
      have hbad : overS pks order k = true → r = 2 := fun h => by rw [HR2.out, if_pos (any_hit (by rw [← HM.out]; exact hlt) h)]
      have hnext : overS pks order k = false → ∀ j, j < k + 1 → overS pks order j = false := fun h j hj => by
        rcases Nat.lt_or_eq_of_le (Nat.le_of_lt_succ hj) with h2 | rfl
        · exact hz.out j h2
        · exact h
      have ho : overS pks order k = (decide (order.getD k 0 < 0) || decide ((pks.getD k pk0).most < order.getD k 0)) := rfl
      rw [ho] at hbad hnext
      generalize (pks.getD k pk0).most = m at c3 hbad hnext
      generalize order.getD k 0 = x at c4 hbad hnext
      have a1 := he.cell a1
      have za := cell_lt a1
      have zb := cell_lt c1
      have zc := cell_lt c4
      dsimp only at za zb zc
      clear ho
      by_cases hx : x < 0
      · obtain rfl : r = 2 := hbad (by simp [hx])
        clear hbad hnext hz
        go_wp2
        go_quiet (fail)
        go_wp2
        go_ret
        exact ⟨rfl, extA⟩
      by_cases hx2 : m < x
      · obtain rfl : r = 2 := hbad (by simp [hx2])
        clear hbad hnext hz
        go_wp2
        go_quiet (fail)
        go_wp2
        go_ret
        exact ⟨rfl, extA⟩
      · have HG := Lib.hid (hnext (by simp; omega))
        clear hbad hnext hz
        go_wp2
        go_quiet (fail)
        go_wp2
        exact ⟨⟨k + 1, by omega, by go_num, HG.out, extA⟩, by simp [intOf]; omega⟩
    · have hke : k = M := by omega
      subst hke
      have hlt' : ¬ (k : Int) < (k : Int) := by omega
      obtain rfl : r = 0 := by
        rw [HR2.out, if_neg]
        rw [any_end (by rw [← HM.out]; exact hz.out)]; simp
      go_wp2
      go_ret
      exact ⟨rfl, EK⟩
set_option maxHeartbeats 4000000 in
theorem rPrice_any {pks : List Pk} {need order : List Int} {pa : Option Addr} {pc : Nat} {na : Option Addr} {nc : Nat} {oa : Option Addr} {oc : Nat} {w : World} (ht : TaskG w pks need pa pc na nc) (ho : CellsI w oa order) (hg : Gives pks need order) :
    Calls Tryz.prog 48 #[taskV pks need pa pc na nc, .slice oa order.length oc] w fun e w' => e = .returned (.int .i64 (costS pks order)) ∧ Ext w w' := by
  unfold taskV
  have HP := Lib.hid ht.pk
  have HO := Lib.hid ho
  have HG := Lib.hid hg
  obtain ⟨N, hN⟩ : ∃ N, N = pks.length := ⟨_, rfl⟩
  obtain ⟨K, hK⟩ : ∃ K, K = need.length := ⟨_, rfl⟩
  have hNl := hg.r.pl
  rw [hg.len, ← hN, ← hK]
  rw [← hN] at hNl
  have HN := Lib.hid hN
  have HS : Hid (dotT Pk.price pks order N = costS pks order) := dotT_full _ hg.len hN
  generalize costS pks order = c at HS ⊢
  clear ht hN hK ho hg
  have E0 : Ext w (w.alloc (.cells #[.slice pa N pc, .slice na K nc] 30)) := (Ext.refl _).alloc _
  have y1 : (w.alloc (.cells #[.slice pa N pc, .slice na K nc] 30)).cell? ⟨w.heap.size, 0, none⟩ = some (.slice pa N pc) := by go_simp
  go_enter Tryz.func48, Tryz.ntmps48
  go_wp2
  generalize w.alloc (.cells #[.slice pa N pc, .slice na K nc] 30) = W at E0 y1 ⊢
  go_loopw [5, 6] (fun m i wr => ∃ k : Nat, k ≤ N ∧ i = .int .i64 k ∧ m = .int .i64 (dotT Pk.price pks order k) ∧ Ext W wr) (fun _ i _ => N - (intOf i).toNat)
  case atStart => exact ⟨0, Nat.zero_le _, rfl, by rw [dotT_zero], Ext.refl _⟩
  case round =>
    obtain ⟨k, hkk, rfl, rfl, he⟩ := hrel
    by_cases hlt : k < N
    · have hlt' : (k : Int) < (N : Int) := by omega
      have EK := E0.trans he
      have hi : k < pks.length := by rw [← HN.out]; exact hlt
      obtain ⟨b, off, v, rfl, c1, _, c2, c3⟩ := (HP.out.ext EK) k hi
      obtain ⟨b2, off2, rfl, c4⟩ := HO.out.ext EK k (by rw [HG.out.len]; exact hi)
      have hs := dotT_succ Pk.price (ps := pks) (o := order) hi (by rw [HG.out.len]; exact hi)
      have hb1 := costT_bd HG.out k (by omega)
      have hb2 := costT_bd HG.out (k + 1) (by omega)
      have hb3 := gives_bd HG.out k hi
      have hb4 := HG.out.r.price _ (getD_mem (d := pk0) hi)
      rw [hs] at hb2
      generalize (pks.getD k pk0).price = m at c2 hs hb4 hb2
      generalize order.getD k 0 = x at c4 hs hb3 hb2
      generalize dotT Pk.price pks order k = s at hs hb1 hb2 ⊢
      have hmx : 0 ≤ x * m ∧ x * m ≤ 1099511627776 := ⟨Int.mul_nonneg hb3.1 hb4.1, Int.mul_le_mul hb3.2 hb4.2 hb4.1 (by omega)⟩
      have HSS := Lib.hid hs
      have q1 : IntKind.i64.wrap (x * m) = x * m := IntWalk.i64_in _ (by omega)
      have q2 : IntKind.i64.wrap (s + x * m) = s + x * m := IntWalk.i64_in _ (by omega)
      have a1 := he.cell y1
      have za := cell_lt a1
      have zb := cell_lt c1
      have zc := cell_lt c4
      dsimp only at za zb zc
      clear hs hb1 hb2 hb3 hb4 hi
      go_wp2
      go_quiet (fail)
      go_wp2
      exact ⟨⟨k + 1, by omega, by go_num, by rw [HSS.out], extA⟩, by simp [intOf]; omega⟩
    · have hke : k = N := by omega
      subst hke
      have hlt' : ¬ (k : Int) < (k : Int) := by omega
      rw [HS.out]
      go_wp2
      go_ret
      exact ⟨rfl, E0.trans he⟩
end Go.Proofs.YtmndcdjcodfchaaGreatDoor
