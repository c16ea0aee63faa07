/- Steps of the proof: FOps, FOpT, FCptP, FMak, FCpt0, FCpt1, FCpt2, FCpt3, FApi, FFloor, FCeilP, FAwk, FRing, FRefS, FCmpF, FSumsP, FSumR, FOpsR, Cut4, Cut5, Cut8. No conditions. -/
import Derived.Laws.EntriesVeiled
import Derived.Test.YtlhpfhnbeagnaaaGreatDoorZCB1
import Derived.Test.YtlhpfhnbeagnaaaGreatDoorZCB2
import Derived.Test.YtlhpfhnbeagnaaaGreatDoorZCB3
import Derived.Test.YtlhpfhnbeagnaaaGreatDoorZCB4
import Derived.Test.YtlhpfhnbeagnaaaGreatDoorZCB5
import Derived.Test.YtlhpfhnbeagnaaaGreatDoorZCB6
namespace Go.Proofs.YtlhpfhnbeagnaaaGreatDoor
open Go.RowKit
def OpOk (x : Num) (w : World) (e : Ending) (w' : World) : Prop := ∃ z, e = .returned (.tuple #[z, .int .i64 0]) ∧ NumV w' z x ∧ NewN w.heap.size z ∧ Ext w w'
set_option maxHeartbeats 8000000 in
set_option maxRecDepth 100000 in
theorem op0_any (x y : Num) (v u : Value) (w : World) (hv : NumV w v x) (hu : NumV w u y) (hx : LenN 40 x) (hy : LenN 40 y) :
    Calls Tryz.prog 143 #[v, u] w (OpOk (sumN x y) w) := by
  have HV := Lib.hid hv
  have HU := Lib.hid hu
  have HLX := Lib.hid hx
  have HLY := Lib.hid hy
  obtain ⟨ta, tc, ba, bc, rfl, h1, h2⟩ := hv
  obtain ⟨ua, uc, va, vc, rfl, h3, h4⟩ := hu
  obtain ⟨s, t, d⟩ := x
  obtain ⟨r, p, q⟩ := y
  obtain ⟨l1, l2⟩ := hx
  obtain ⟨l3, l4⟩ := hy
  dsimp only at h1 h2 h3 h4 l1 l2 l3 l4 ⊢
  have HS := Lib.hid (fun W (hW : Ext w W) => sum_any (s, t, d) (r, p, q) _ _ W (HV.out.ext hW) (HU.out.ext hW) HLX.out HLY.out)
  generalize sumN (s, t, d) (r, p, q) = SN at *
  clear h1 h2 h3 h4
  have E : Ext w (((w.alloc (.cells #[.bool s, (.slice ta (toB 1000000000 t).length tc), (.slice ba (toB 1000000000 d).length bc)] 157)).alloc (.cells #[.bool r, (.slice ua (toB 1000000000 p).length uc), (.slice va (toB 1000000000 q).length vc)] 157)).alloc (.cells #[.bool false, .slice none 0 0, .slice none 0 0] 157)) := extA
  have A : Num3 w.heap.size (((w.alloc (.cells #[.bool s, (.slice ta (toB 1000000000 t).length tc), (.slice ba (toB 1000000000 d).length bc)] 157)).alloc (.cells #[.bool r, (.slice ua (toB 1000000000 p).length uc), (.slice va (toB 1000000000 q).length vc)] 157)).alloc (.cells #[.bool false, .slice none 0 0, .slice none 0 0] 157)) (.bool s) (.slice ta (toB 1000000000 t).length tc) (.slice ba (toB 1000000000 d).length bc) := ⟨by go_simp, by go_simp, by go_simp, by go_simp, by go_simp, by go_simp⟩
  have B : Num3 (w.heap.size + 1) (((w.alloc (.cells #[.bool s, (.slice ta (toB 1000000000 t).length tc), (.slice ba (toB 1000000000 d).length bc)] 157)).alloc (.cells #[.bool r, (.slice ua (toB 1000000000 p).length uc), (.slice va (toB 1000000000 q).length vc)] 157)).alloc (.cells #[.bool false, .slice none 0 0, .slice none 0 0] 157)) (.bool r) (.slice ua (toB 1000000000 p).length uc) (.slice va (toB 1000000000 q).length vc) := ⟨by go_simp, by go_simp, by go_simp, by go_simp, by go_simp, by go_simp⟩
  have R : Num3 (w.heap.size + 1 + 1) (((w.alloc (.cells #[.bool s, (.slice ta (toB 1000000000 t).length tc), (.slice ba (toB 1000000000 d).length bc)] 157)).alloc (.cells #[.bool r, (.slice ua (toB 1000000000 p).length uc), (.slice va (toB 1000000000 q).length vc)] 157)).alloc (.cells #[.bool false, .slice none 0 0, .slice none 0 0] 157)) (.bool false) (.slice none 0 0) (.slice none 0 0) := ⟨by go_simp, by go_simp, by go_simp, by go_simp, by go_simp, by go_simp⟩
  go_enter Tryz.func143, Tryz.ntmps143
  go_wp2_with fail
  generalize (((w.alloc (.cells #[.bool s, (.slice ta (toB 1000000000 t).length tc), (.slice ba (toB 1000000000 d).length bc)] 157)).alloc (.cells #[.bool r, (.slice ua (toB 1000000000 p).length uc), (.slice va (toB 1000000000 q).length vc)] 157)).alloc (.cells #[.bool false, .slice none 0 0, .slice none 0 0] 157)) = W at E A B R ⊢
  refine (HS.out _ E).mono ?_
  rintro e w4 ⟨z, rfl, hz, hn, hE⟩
  have hz0 : w.heap.size + 1 + 1 < W.heap.size := cell_lt R.c0
  replace R := R.ext hE
  replace E := E.trans hE
  clear hE
  obtain ⟨za, zc, ya, yc, rfl, k1, k2⟩ := hz
  have HZ := Lib.hid (NumV.set (c := w.heap.size + 1 + 1) (o := 2) (u := .slice ya (toB 1000000000 SN.2.2).length yc) (NumV.set (c := w.heap.size + 1 + 1) (o := 1) (u := .slice za (toB 1000000000 SN.2.1).length zc) (NumV.set (c := w.heap.size + 1 + 1) (o := 0) (u := .bool SN.1) ⟨za, zc, ya, yc, rfl, k1, k2⟩ hn hz0) hn hz0) hn hz0)
  obtain ⟨c0, c1, c2, f0, f1, f2⟩ := R
  have HNN := Lib.hid (hn _ _ _ _ _ _ _ rfl)
  clear k1 k2 hn A B
  go_wp2_with fail
  refine bodyPost_ret (v := .tuple #[.agg #[.bool SN.1, .slice za (toB 1000000000 SN.2.1).length zc, .slice ya (toB 1000000000 SN.2.2).length yc], .int .i64 0]) (by rw [results_cell_tmp1 rfl]; go_simp) rfl ?_
  exact ⟨_, rfl, HZ.out, newN_mk (fun hl z hz => by have := (HNN.out.1 hl z hz); omega) (fun hl z hz => by have := (HNN.out.2 hl z hz); omega), extA⟩
set_option maxHeartbeats 8000000 in
set_option maxRecDepth 100000 in
theorem op1_any (x y : Num) (v u : Value) (w : World) (hv : NumV w v x) (hu : NumV w u y) (hx : LenN 40 x) (hy : LenN 40 y) :
    Calls Tryz.prog 144 #[v, u] w (OpOk (sumN x (negN y)) w) := by
  have HV := Lib.hid hv
  have HU := Lib.hid hu
  have HLX := Lib.hid hx
  have HLY := Lib.hid hy
  obtain ⟨ta, tc, ba, bc, rfl, h1, h2⟩ := hv
  obtain ⟨ua, uc, va, vc, rfl, h3, h4⟩ := hu
  obtain ⟨s, t, d⟩ := x
  obtain ⟨r, p, q⟩ := y
  obtain ⟨l1, l2⟩ := hx
  obtain ⟨l3, l4⟩ := hy
  dsimp only at h1 h2 h3 h4 l1 l2 l3 l4 ⊢
  have HO := Lib.hid (fun W (hW : Ext w W) => opposite_any (r, p, q) _ W (HU.out.ext hW))
  have HNL : Hid (LenN 40 (negN (r, p, q))) := HLY.out
  have HS := Lib.hid (fun u W (hW : Ext w W) (hu : NumV W u (negN (r, p, q))) => sum_any (s, t, d) (negN (r, p, q)) _ _ W (HV.out.ext hW) hu HLX.out HNL.out)
  generalize sumN (s, t, d) (negN (r, p, q)) = SN at *
  clear h1 h2 h3 h4
  have E : Ext w (((w.alloc (.cells #[.bool s, (.slice ta (toB 1000000000 t).length tc), (.slice ba (toB 1000000000 d).length bc)] 157)).alloc (.cells #[.bool r, (.slice ua (toB 1000000000 p).length uc), (.slice va (toB 1000000000 q).length vc)] 157)).alloc (.cells #[.bool false, .slice none 0 0, .slice none 0 0] 157)) := extA
  have A : Num3 w.heap.size (((w.alloc (.cells #[.bool s, (.slice ta (toB 1000000000 t).length tc), (.slice ba (toB 1000000000 d).length bc)] 157)).alloc (.cells #[.bool r, (.slice ua (toB 1000000000 p).length uc), (.slice va (toB 1000000000 q).length vc)] 157)).alloc (.cells #[.bool false, .slice none 0 0, .slice none 0 0] 157)) (.bool s) (.slice ta (toB 1000000000 t).length tc) (.slice ba (toB 1000000000 d).length bc) := ⟨by go_simp, by go_simp, by go_simp, by go_simp, by go_simp, by go_simp⟩
  have B : Num3 (w.heap.size + 1) (((w.alloc (.cells #[.bool s, (.slice ta (toB 1000000000 t).length tc), (.slice ba (toB 1000000000 d).length bc)] 157)).alloc (.cells #[.bool r, (.slice ua (toB 1000000000 p).length uc), (.slice va (toB 1000000000 q).length vc)] 157)).alloc (.cells #[.bool false, .slice none 0 0, .slice none 0 0] 157)) (.bool r) (.slice ua (toB 1000000000 p).length uc) (.slice va (toB 1000000000 q).length vc) := ⟨by go_simp, by go_simp, by go_simp, by go_simp, by go_simp, by go_simp⟩
  have R : Num3 (w.heap.size + 1 + 1) (((w.alloc (.cells #[.bool s, (.slice ta (toB 1000000000 t).length tc), (.slice ba (toB 1000000000 d).length bc)] 157)).alloc (.cells #[.bool r, (.slice ua (toB 1000000000 p).length uc), (.slice va (toB 1000000000 q).length vc)] 157)).alloc (.cells #[.bool false, .slice none 0 0, .slice none 0 0] 157)) (.bool false) (.slice none 0 0) (.slice none 0 0) := ⟨by go_simp, by go_simp, by go_simp, by go_simp, by go_simp, by go_simp⟩
  go_enter Tryz.func144, Tryz.ntmps144
  go_wp2_with fail
  generalize (((w.alloc (.cells #[.bool s, (.slice ta (toB 1000000000 t).length tc), (.slice ba (toB 1000000000 d).length bc)] 157)).alloc (.cells #[.bool r, (.slice ua (toB 1000000000 p).length uc), (.slice va (toB 1000000000 q).length vc)] 157)).alloc (.cells #[.bool false, .slice none 0 0, .slice none 0 0] 157)) = W at E A B R ⊢
  have hdr : Ext W W.drew := extA
  replace A := A.ext hdr
  replace B := B.ext hdr
  replace R := R.ext hdr
  replace E := E.trans hdr
  have hS : W.drew.cell? ⟨w.heap.size, 0, none⟩ = some (.bool s) ∧ W.drew.cell? ⟨w.heap.size, 1, none⟩ = some (.slice ta (toB 1000000000 t).length tc) ∧ W.drew.cell? ⟨w.heap.size, 2, none⟩ = some (.slice ba (toB 1000000000 d).length bc) ∧ W.drew.cell? ⟨w.heap.size + 1, 0, none⟩ = some (.bool r) ∧ W.drew.cell? ⟨w.heap.size + 1, 1, none⟩ = some (.slice ua (toB 1000000000 p).length uc) ∧ W.drew.cell? ⟨w.heap.size + 1, 2, none⟩ = some (.slice va (toB 1000000000 q).length vc) := ⟨A.c0, A.c1, A.c2, B.c0, B.c1, B.c2⟩
  refine wp_region_heldE 4 (fun w' => w'.cell? ⟨w.heap.size, 0, none⟩ = some (.bool s) ∧ w'.cell? ⟨w.heap.size, 1, none⟩ = some (.slice ta (toB 1000000000 t).length tc) ∧ w'.cell? ⟨w.heap.size, 2, none⟩ = some (.slice ba (toB 1000000000 d).length bc) ∧ w'.cell? ⟨w.heap.size + 1, 0, none⟩ = some (.bool r) ∧ w'.cell? ⟨w.heap.size + 1, 1, none⟩ = some (.slice ua (toB 1000000000 p).length uc) ∧ w'.cell? ⟨w.heap.size + 1, 2, none⟩ = some (.slice va (toB 1000000000 q).length vc)) (by kernel_rfl) ?_
  clear hdr
  generalize W.drew = W at E A B R hS ⊢
  ((refine eTk 0 ?_); (refine eTk 1 ?_))
  (refine wpAnyE_one (i := 2) (o := ?_) ?_ (by kernel_rfl) (fun K hK => ?_); rotate_left; (focus ((simp only [List.getElem?_toArray, List.getElem?_cons_succ, List.getElem?_cons_zero]; exact rfl))); go_simp; go_at_call 123; refine (HO.out _ E).mono ?_; rintro e w1 ⟨u1, rfl, hu1, hE⟩; go_wp2_with fail; refine hK.out _ _ ?_ (fun hHeld => ?_); rotate_left; clear hK K; (try simp only [Act.put, List.setIfInBounds_toArray, List.set_cons_zero, List.set_cons_succ]))
  rotate_left
  · exact ⟨hE.cell hS.1, hE.cell hS.2.1, hE.cell hS.2.2.1, hE.cell hS.2.2.2.1, hE.cell hS.2.2.2.2.1, hE.cell hS.2.2.2.2.2⟩
  replace A := A.ext hE
  replace B := B.ext hE
  replace R := R.ext hE
  replace E := E.trans hE
  replace hS : w1.cell? ⟨w.heap.size, 0, none⟩ = some (.bool s) ∧ w1.cell? ⟨w.heap.size, 1, none⟩ = some (.slice ta (toB 1000000000 t).length tc) ∧ w1.cell? ⟨w.heap.size, 2, none⟩ = some (.slice ba (toB 1000000000 d).length bc) ∧ w1.cell? ⟨w.heap.size + 1, 0, none⟩ = some (.bool r) ∧ w1.cell? ⟨w.heap.size + 1, 1, none⟩ = some (.slice ua (toB 1000000000 p).length uc) ∧ w1.cell? ⟨w.heap.size + 1, 2, none⟩ = some (.slice va (toB 1000000000 q).length vc) := ⟨hE.cell hS.1, hE.cell hS.2.1, hE.cell hS.2.2.1, hE.cell hS.2.2.2.1, hE.cell hS.2.2.2.2.1, hE.cell hS.2.2.2.2.2⟩
  clear hE hHeld
  have hz0 : w.heap.size + 1 + 1 < w1.heap.size := cell_lt R.c0
  (refine wpAnyE_one (i := 3) (o := ?_) ?_ (by kernel_rfl) (fun K hK => ?_); rotate_left; (focus ((simp only [List.getElem?_toArray, List.getElem?_cons_succ, List.getElem?_cons_zero]; exact rfl))); go_simp; go_at_call 122; refine (HS.out _ _ E hu1).mono ?_; rintro e w4 ⟨z, rfl, hz, hn, hE⟩; go_wp2_with fail; refine hK.out _ _ ?_ (fun hHeld => ?_); rotate_left; clear hK K; (try simp only [Act.put, List.setIfInBounds_toArray, List.set_cons_zero, List.set_cons_succ]))
  rotate_left
  · exact ⟨hE.cell hS.1, hE.cell hS.2.1, hE.cell hS.2.2.1, hE.cell hS.2.2.2.1, hE.cell hS.2.2.2.2.1, hE.cell hS.2.2.2.2.2⟩
  replace A := A.ext hE
  replace B := B.ext hE
  replace R := R.ext hE
  replace E := E.trans hE
  replace hS : w4.cell? ⟨w.heap.size, 0, none⟩ = some (.bool s) ∧ w4.cell? ⟨w.heap.size, 1, none⟩ = some (.slice ta (toB 1000000000 t).length tc) ∧ w4.cell? ⟨w.heap.size, 2, none⟩ = some (.slice ba (toB 1000000000 d).length bc) ∧ w4.cell? ⟨w.heap.size + 1, 0, none⟩ = some (.bool r) ∧ w4.cell? ⟨w.heap.size + 1, 1, none⟩ = some (.slice ua (toB 1000000000 p).length uc) ∧ w4.cell? ⟨w.heap.size + 1, 2, none⟩ = some (.slice va (toB 1000000000 q).length vc) := ⟨hE.cell hS.1, hE.cell hS.2.1, hE.cell hS.2.2.1, hE.cell hS.2.2.2.1, hE.cell hS.2.2.2.2.1, hE.cell hS.2.2.2.2.2⟩
  clear hE hu1 hHeld
  obtain ⟨za, zc, ya, yc, rfl, k1, k2⟩ := hz
  have HZ := Lib.hid (NumV.set (c := w.heap.size + 1 + 1) (o := 2) (u := .slice ya (toB 1000000000 SN.2.2).length yc) (NumV.set (c := w.heap.size + 1 + 1) (o := 1) (u := .slice za (toB 1000000000 SN.2.1).length zc) (NumV.set (c := w.heap.size + 1 + 1) (o := 0) (u := .bool SN.1) ⟨za, zc, ya, yc, rfl, k1, k2⟩ hn hz0) hn hz0) hn hz0)
  obtain ⟨c0, c1, c2, f0, f1, f2⟩ := R
  have HNN := Lib.hid (hn _ _ _ _ _ _ _ rfl)
  clear k1 k2 hn A B
  (refine wpAnyE_free (i := 4) (o := ?_) ?_ (by kernel_rfl) (by kernel_rfl) (fun K hK => ?_); rotate_left; (focus ((simp only [List.getElem?_toArray, List.getElem?_cons_succ, List.getElem?_cons_zero]; exact rfl))); go_simp; refine hK.out _ _ ?_; clear hK K; (try simp only [Act.put, List.setIfInBounds_toArray, List.set_cons_zero, List.set_cons_succ]))
  ((refine ePu 5 ?_))
  refine wpAnyE_done (by kernel_rfl) ?_ _
  go_wp2_with fail
  refine bodyPost_ret (v := .tuple #[.agg #[.bool SN.1, .slice za (toB 1000000000 SN.2.1).length zc, .slice ya (toB 1000000000 SN.2.2).length yc], .int .i64 0]) (by rw [results_cell_tmp1 rfl]; go_simp) rfl ?_
  exact ⟨_, rfl, HZ.out, newN_mk (fun hl z hz => by have := (HNN.out.1 hl z hz); omega) (fun hl z hz => by have := (HNN.out.2 hl z hz); omega), extA⟩
set_option maxHeartbeats 8000000 in
set_option maxRecDepth 100000 in
theorem op2_any (x y : Num) (v u : Value) (w : World) (hv : NumV w v x) (hu : NumV w u y) (hx : LenN 40 x) (hy : LenN 40 y) :
    Calls Tryz.prog 145 #[v, u] w (OpOk (mulN x y) w) := by
  have HV := Lib.hid hv
  have HU := Lib.hid hu
  have HLX := Lib.hid hx
  have HLY := Lib.hid hy
  obtain ⟨ta, tc, ba, bc, rfl, h1, h2⟩ := hv
  obtain ⟨ua, uc, va, vc, rfl, h3, h4⟩ := hu
  obtain ⟨s, t, d⟩ := x
  obtain ⟨r, p, q⟩ := y
  obtain ⟨l1, l2⟩ := hx
  obtain ⟨l3, l4⟩ := hy
  dsimp only at h1 h2 h3 h4 l1 l2 l3 l4 ⊢
  have HT1 := Lib.hid (fun W (hW : Ext w W) => (times_any t p _ _ ta ua tc uc W rfl rfl (by omega) (by omega) (h1.ext hW) (h3.ext hW)).mono fun _ _ h => h.newB)
  have HT2 := Lib.hid (fun W (hW : Ext w W) => (times_any d q _ _ ba va bc vc W rfl rfl (by omega) (by omega) (h2.ext hW) (h4.ext hW)).mono fun _ _ h => h.newB)
  have HSN := Lib.hid (show (mulN (s, t, d) (r, p, q)) = (s != r, t * p, d * q) from rfl)
  generalize (mulN (s, t, d) (r, p, q)) = SN at *
  generalize t * p = X1 at *
  generalize d * q = X2 at *
  clear h1 h2 h3 h4
  have E : Ext w (((w.alloc (.cells #[.bool s, (.slice ta (toB 1000000000 t).length tc), (.slice ba (toB 1000000000 d).length bc)] 157)).alloc (.cells #[.bool r, (.slice ua (toB 1000000000 p).length uc), (.slice va (toB 1000000000 q).length vc)] 157)).alloc (.cells #[.bool false, .slice none 0 0, .slice none 0 0] 157)) := extA
  have A : Num3 w.heap.size (((w.alloc (.cells #[.bool s, (.slice ta (toB 1000000000 t).length tc), (.slice ba (toB 1000000000 d).length bc)] 157)).alloc (.cells #[.bool r, (.slice ua (toB 1000000000 p).length uc), (.slice va (toB 1000000000 q).length vc)] 157)).alloc (.cells #[.bool false, .slice none 0 0, .slice none 0 0] 157)) (.bool s) (.slice ta (toB 1000000000 t).length tc) (.slice ba (toB 1000000000 d).length bc) := ⟨by go_simp, by go_simp, by go_simp, by go_simp, by go_simp, by go_simp⟩
  have B : Num3 (w.heap.size + 1) (((w.alloc (.cells #[.bool s, (.slice ta (toB 1000000000 t).length tc), (.slice ba (toB 1000000000 d).length bc)] 157)).alloc (.cells #[.bool r, (.slice ua (toB 1000000000 p).length uc), (.slice va (toB 1000000000 q).length vc)] 157)).alloc (.cells #[.bool false, .slice none 0 0, .slice none 0 0] 157)) (.bool r) (.slice ua (toB 1000000000 p).length uc) (.slice va (toB 1000000000 q).length vc) := ⟨by go_simp, by go_simp, by go_simp, by go_simp, by go_simp, by go_simp⟩
  have R : Num3 (w.heap.size + 1 + 1) (((w.alloc (.cells #[.bool s, (.slice ta (toB 1000000000 t).length tc), (.slice ba (toB 1000000000 d).length bc)] 157)).alloc (.cells #[.bool r, (.slice ua (toB 1000000000 p).length uc), (.slice va (toB 1000000000 q).length vc)] 157)).alloc (.cells #[.bool false, .slice none 0 0, .slice none 0 0] 157)) (.bool false) (.slice none 0 0) (.slice none 0 0) := ⟨by go_simp, by go_simp, by go_simp, by go_simp, by go_simp, by go_simp⟩
  go_enter Tryz.func145, Tryz.ntmps145
  go_wp2_with fail
  generalize (((w.alloc (.cells #[.bool s, (.slice ta (toB 1000000000 t).length tc), (.slice ba (toB 1000000000 d).length bc)] 157)).alloc (.cells #[.bool r, (.slice ua (toB 1000000000 p).length uc), (.slice va (toB 1000000000 q).length vc)] 157)).alloc (.cells #[.bool false, .slice none 0 0, .slice none 0 0] 157)) = W at E A B R ⊢
  have hdr : Ext W W.drew := extA
  replace A := A.ext hdr
  replace B := B.ext hdr
  replace R := R.ext hdr
  replace E := E.trans hdr
  have hS : W.drew.cell? ⟨w.heap.size, 0, none⟩ = some (.bool s) ∧ W.drew.cell? ⟨w.heap.size, 1, none⟩ = some (.slice ta (toB 1000000000 t).length tc) ∧ W.drew.cell? ⟨w.heap.size, 2, none⟩ = some (.slice ba (toB 1000000000 d).length bc) ∧ W.drew.cell? ⟨w.heap.size + 1, 0, none⟩ = some (.bool r) ∧ W.drew.cell? ⟨w.heap.size + 1, 1, none⟩ = some (.slice ua (toB 1000000000 p).length uc) ∧ W.drew.cell? ⟨w.heap.size + 1, 2, none⟩ = some (.slice va (toB 1000000000 q).length vc) := ⟨A.c0, A.c1, A.c2, B.c0, B.c1, B.c2⟩
  refine wp_region_heldE 16 (fun w' => w'.cell? ⟨w.heap.size, 0, none⟩ = some (.bool s) ∧ w'.cell? ⟨w.heap.size, 1, none⟩ = some (.slice ta (toB 1000000000 t).length tc) ∧ w'.cell? ⟨w.heap.size, 2, none⟩ = some (.slice ba (toB 1000000000 d).length bc) ∧ w'.cell? ⟨w.heap.size + 1, 0, none⟩ = some (.bool r) ∧ w'.cell? ⟨w.heap.size + 1, 1, none⟩ = some (.slice ua (toB 1000000000 p).length uc) ∧ w'.cell? ⟨w.heap.size + 1, 2, none⟩ = some (.slice va (toB 1000000000 q).length vc)) (by kernel_rfl) ?_
  clear hdr
  generalize W.drew = W at E A B R hS ⊢
  have hz0 : w.heap.size + 1 + 1 < W.heap.size := cell_lt R.c0
  ((refine eTk 0 ?_); (refine eTk 1 ?_); (refine eTk 2 ?_); (refine eTk 3 ?_); (refine eTk 4 ?_); (refine eTk 5 ?_); (refine eTk 6 ?_); (refine eTk 7 ?_); (refine eTk 8 ?_); (refine eTk 10 ?_); (refine eTk 11 ?_); (refine eTk 12 ?_); (refine eTk 13 ?_))
  (refine wpAnyE_one (i := 9) (o := ?_) ?_ (by kernel_rfl) (fun K hK => ?_); rotate_left; (focus ((simp only [List.getElem?_toArray, List.getElem?_cons_succ, List.getElem?_cons_zero]; exact rfl))); go_simp; go_at_call 140; refine (HT1.out _ E).mono ?_; rintro e w1 ⟨xa, xc, rfl, hx, hxn, hE⟩; go_wp2_with fail; refine hK.out _ _ ?_ (fun hHeld => ?_); rotate_left; clear hK K; (try simp only [Act.put, List.setIfInBounds_toArray, List.set_cons_zero, List.set_cons_succ]))
  rotate_left
  · exact ⟨hE.cell hS.1, hE.cell hS.2.1, hE.cell hS.2.2.1, hE.cell hS.2.2.2.1, hE.cell hS.2.2.2.2.1, hE.cell hS.2.2.2.2.2⟩
  replace A := A.ext hE
  replace B := B.ext hE
  replace R := R.ext hE
  replace E := E.trans hE
  replace hS : w1.cell? ⟨w.heap.size, 0, none⟩ = some (.bool s) ∧ w1.cell? ⟨w.heap.size, 1, none⟩ = some (.slice ta (toB 1000000000 t).length tc) ∧ w1.cell? ⟨w.heap.size, 2, none⟩ = some (.slice ba (toB 1000000000 d).length bc) ∧ w1.cell? ⟨w.heap.size + 1, 0, none⟩ = some (.bool r) ∧ w1.cell? ⟨w.heap.size + 1, 1, none⟩ = some (.slice ua (toB 1000000000 p).length uc) ∧ w1.cell? ⟨w.heap.size + 1, 2, none⟩ = some (.slice va (toB 1000000000 q).length vc) := ⟨hE.cell hS.1, hE.cell hS.2.1, hE.cell hS.2.2.1, hE.cell hS.2.2.2.1, hE.cell hS.2.2.2.2.1, hE.cell hS.2.2.2.2.2⟩
  have hSZ1 : Hid (w.heap.size + 1 + 1 < w1.heap.size) := cell_lt R.c0
  have HX := Lib.hid hx
  have HXN : Hid (∀ z, xa = some z → w.heap.size + 1 + 1 < z.block) := fun z hz => by have := hxn z hz; omega
  clear hE hHeld hx hxn
  (refine wpAnyE_one (i := 14) (o := ?_) ?_ (by kernel_rfl) (fun K hK => ?_); rotate_left; (focus ((simp only [List.getElem?_toArray, List.getElem?_cons_succ, List.getElem?_cons_zero]; exact rfl))); go_simp; go_at_call 140; refine (HT2.out _ E).mono ?_; rintro e w2 ⟨ya, yc, rfl, hy, hyn, hE⟩; go_wp2_with fail; refine hK.out _ _ ?_ (fun hHeld => ?_); rotate_left; clear hK K; (try simp only [Act.put, List.setIfInBounds_toArray, List.set_cons_zero, List.set_cons_succ]))
  rotate_left
  · exact ⟨hE.cell hS.1, hE.cell hS.2.1, hE.cell hS.2.2.1, hE.cell hS.2.2.2.1, hE.cell hS.2.2.2.2.1, hE.cell hS.2.2.2.2.2⟩
  replace A := A.ext hE
  replace B := B.ext hE
  replace R := R.ext hE
  replace E := E.trans hE
  replace hS : w2.cell? ⟨w.heap.size, 0, none⟩ = some (.bool s) ∧ w2.cell? ⟨w.heap.size, 1, none⟩ = some (.slice ta (toB 1000000000 t).length tc) ∧ w2.cell? ⟨w.heap.size, 2, none⟩ = some (.slice ba (toB 1000000000 d).length bc) ∧ w2.cell? ⟨w.heap.size + 1, 0, none⟩ = some (.bool r) ∧ w2.cell? ⟨w.heap.size + 1, 1, none⟩ = some (.slice ua (toB 1000000000 p).length uc) ∧ w2.cell? ⟨w.heap.size + 1, 2, none⟩ = some (.slice va (toB 1000000000 q).length vc) := ⟨hE.cell hS.1, hE.cell hS.2.1, hE.cell hS.2.2.1, hE.cell hS.2.2.2.1, hE.cell hS.2.2.2.2.1, hE.cell hS.2.2.2.2.2⟩
  have hz1 : w.heap.size + 1 + 1 < w1.heap.size := hSZ1.out
  replace HX := Lib.hid (HX.out.ext hE)
  have HY := Lib.hid hy
  have HYN : Hid (∀ z, ya = some z → w.heap.size + 1 + 1 < z.block) := fun z hz => by have := hyn z hz; omega
  clear hE hHeld hy hyn A B
  obtain ⟨c0, c1, c2, f0, f1, f2⟩ := R
  (refine eTk 15 ?_)
  (refine wpAnyE_free (i := 16) (o := ?_) ?_ (by kernel_rfl) (by kernel_rfl) (fun K hK => ?_); rotate_left; (focus ((simp only [List.getElem?_toArray, List.getElem?_cons_succ, List.getElem?_cons_zero]; exact rfl))); go_simp; refine hK.out _ _ ?_; clear hK K; (try simp only [Act.put, List.setIfInBounds_toArray, List.set_cons_zero, List.set_cons_succ]))
  ((refine ePu 17 ?_))
  refine wpAnyE_done (by kernel_rfl) ?_ _
  go_wp2_with fail
  refine bodyPost_ret (v := .tuple #[.agg #[.bool (!(s == r)), .slice xa (toB 1000000000 X1).length xc, .slice ya (toB 1000000000 X2).length yc], .int .i64 0]) (by rw [results_cell_tmp1 rfl]; go_simp) rfl ?_
  refine ⟨_, rfl, ?_, newN_mk (fun hl z hz => by have := HXN.out z hz; omega) (fun hl z hz => by have := HYN.out z hz; omega), extA⟩
  rw [HSN.out]
  refine ⟨xa, xc, ya, yc, rfl, ?_, ?_⟩
  · exact ((HX.out.set (fun z hz => Nat.ne_of_gt (HXN.out z hz))).set (fun z hz => Nat.ne_of_gt (HXN.out z hz))).set (fun z hz => Nat.ne_of_gt (HXN.out z hz))
  · exact ((HY.out.set (fun z hz => Nat.ne_of_gt (HYN.out z hz))).set (fun z hz => Nat.ne_of_gt (HYN.out z hz))).set (fun z hz => Nat.ne_of_gt (HYN.out z hz))
end Go.Proofs.YtlhpfhnbeagnaaaGreatDoor
namespace Go.Proofs.YtlhpfhnbeagnaaaGreatDoor
open Go.RowKit
theorem operations_any (w : World) :
    Calls Tryz.prog 126 #[] w fun e w' => e = .returned (.agg #[.func (.func 143) #[] #[], .func (.func 144) #[] #[], .func (.func 145) #[] #[], .func (.func 146) #[] #[]]) ∧ Ext w w' := by
  go_enter Tryz.func126, Tryz.ntmps126
  go_wp2_with fail
  trace_state
  refine bodyPost_ret (v := .agg #[.func (.func 143) #[] #[], .func (.func 144) #[] #[], .func (.func 145) #[] #[], .func (.func 146) #[] #[]]) (by rw [results_cell1 rfl]; go_simp) rfl ?_
  exact ⟨rfl, extA⟩
end Go.Proofs.YtlhpfhnbeagnaaaGreatDoor
namespace Go.Proofs.YtlhpfhnbeagnaaaGreatDoor
open Go.RowKit
theorem numOf_len {a : Txt} (h : fracE a = 0) : LenN 40 (numOf a) ∧ (numOf a).2.2 ≠ 0 := by
  obtain ⟨h1, h2, h3, h4, h5, _⟩ := frac_parts h
  have lim : ∀ n, n < 10 ^ 60 → (toB 1000000000 n).length ≤ 40 := fun n hn => toB_len (by omega) 40 (by omega)
  refine ⟨⟨?_, lim _ h5⟩, by show decV (lowS a) ≠ 0; omega⟩
  have e := intV_abs (topS a)
  exact lim _ (by show decV (bareS (topS a)) < _; rw [← e]; exact h2)
theorem lt_len {z k : Nat} (h : (toB 1000000000 z).length ≤ k) : z < 1000000000 ^ k := by
  have h1 := valB_lt (okB_toB (B := 1000000000) (by omega) z)
  rw [valB_toB (by omega)] at h1
  exact Nat.lt_of_lt_of_le h1 (Nat.pow_le_pow_right (by omega) h)
theorem sumN_len {x y : Num} (hx : LenN 40 x) (hy : LenN 40 y) : LenN 90 (sumN x y) := by
  obtain ⟨s, t, d⟩ := x
  obtain ⟨r, p, q⟩ := y
  have h1 := lt_len (mul_len hx.1 hy.2)
  have h2 := lt_len (mul_len hy.1 hx.2)
  have h3 := lt_len (mul_len hx.2 hy.2)
  have e : (1000000000 : Nat) ^ (40 + 40) * 2 ≤ 1000000000 ^ 90 := by
    have : (1000000000 : Nat) ^ 90 = 1000000000 ^ (40 + 40) * 1000000000 ^ 10 := by rw [← Nat.pow_add]
    rw [this]
    exact Nat.mul_le_mul_left _ (by omega)
  dsimp only at h1 h2 h3
  unfold sumN LenN
  dsimp only
  split
  · exact ⟨toB_len (by omega) 90 (by dsimp only; omega), toB_len (by omega) 90 (by dsimp only; omega)⟩
  · split
    · exact ⟨toB_len (by omega) 90 (by dsimp only; omega), toB_len (by omega) 90 (by dsimp only; omega)⟩
    · exact ⟨toB_len (by omega) 90 (by dsimp only; omega), toB_len (by omega) 90 (by dsimp only; omega)⟩
theorem mulN_len {x y : Num} (hx : LenN 40 x) (hy : LenN 40 y) : LenN 90 (mulN x y) :=
  ⟨Nat.le_trans (mul_len hx.1 hy.1) (by omega), Nat.le_trans (mul_len hx.2 hy.2) (by omega)⟩
def ResPost (r : Res) (w : World) (e : Ending) (w' : World) : Prop := e = .returned (.tuple #[txt r.1, .int .i64 (r.2 : Nat)]) ∧ Ext w w'
theorem bothE_zero {a b : Txt} (ha : fracE a = 0) (hb : fracE b = 0) : bothE a b = 0 := by unfold bothE; rw [if_pos ha, hb]
theorem bothE_left {a b : Txt} (ha : fracE a ≠ 0) : bothE a b = fracE a := by unfold bothE; rw [if_neg ha]
theorem bothE_right {a b : Txt} (ha : fracE a = 0) : bothE a b = fracE b := by unfold bothE; rw [if_pos ha]
theorem add_res {a b : Txt} : (fracE a ≠ 0 → addS a b = ([], fracE a)) ∧ (fracE a = 0 → fracE b ≠ 0 → addS a b = ([], fracE b)) ∧ (fracE a = 0 → fracE b = 0 → addS a b = resQ (fracQ a + fracQ b)) := by
  unfold addS ifOk badR
  refine ⟨fun h => ?_, fun h k => ?_, fun h k => ?_⟩
  · rw [bothE_left h, if_neg h]
  · rw [bothE_right h, if_neg k]
  · rw [bothE_zero h k, if_pos rfl]
theorem sub_res {a b : Txt} : (fracE a ≠ 0 → subS a b = ([], fracE a)) ∧ (fracE a = 0 → fracE b ≠ 0 → subS a b = ([], fracE b)) ∧ (fracE a = 0 → fracE b = 0 → subS a b = resQ (fracQ a - fracQ b)) := by
  unfold subS ifOk badR
  refine ⟨fun h => ?_, fun h k => ?_, fun h k => ?_⟩
  · rw [bothE_left h, if_neg h]
  · rw [bothE_right h, if_neg k]
  · rw [bothE_zero h k, if_pos rfl]
theorem mul_res {a b : Txt} : (fracE a ≠ 0 → mulS a b = ([], fracE a)) ∧ (fracE a = 0 → fracE b ≠ 0 → mulS a b = ([], fracE b)) ∧ (fracE a = 0 → fracE b = 0 → mulS a b = resQ (fracQ a * fracQ b)) := by
  unfold mulS ifOk badR
  refine ⟨fun h => ?_, fun h k => ?_, fun h k => ?_⟩
  · rw [bothE_left h, if_neg h]
  · rw [bothE_right h, if_neg k]
  · rw [bothE_zero h k, if_pos rfl]
theorem op_index0 (W : World) : (Instr.index 166 (.agg #[.func (.func 143) #[] #[], .func (.func 144) #[] #[], .func (.func 145) #[] #[], .func (.func 146) #[] #[]]) (.int .i64 0)).run Tryz.prog W = .ok (.agg #[.func (.func 143) #[] #[]]) W := by
  simp [Instr.index, go_sem]
theorem op_index1 (W : World) : (Instr.index 166 (.agg #[.func (.func 143) #[] #[], .func (.func 144) #[] #[], .func (.func 145) #[] #[], .func (.func 146) #[] #[]]) (.int .i64 1)).run Tryz.prog W = .ok (.agg #[.func (.func 144) #[] #[]]) W := by
  simp [Instr.index, go_sem]
theorem op_index2 (W : World) : (Instr.index 166 (.agg #[.func (.func 143) #[] #[], .func (.func 144) #[] #[], .func (.func 145) #[] #[], .func (.func 146) #[] #[]]) (.int .i64 2)).run Tryz.prog W = .ok (.agg #[.func (.func 145) #[] #[]]) W := by
  simp [Instr.index, go_sem]
theorem op_field (W : World) (f : Nat) : (Instr.field 165 (.agg #[.func (.func f) #[] #[]]) 0).run Tryz.prog W = .ok (.func (.func f) #[] #[]) W := by
  simp [Instr.field, asAgg, go_sem]
end Go.Proofs.YtlhpfhnbeagnaaaGreatDoor
namespace Go.Proofs.YtlhpfhnbeagnaaaGreatDoor
open Go.RowKit
open Go.Lib (decDigits itoa)
end Go.Proofs.YtlhpfhnbeagnaaaGreatDoor
namespace Go.Proofs.YtlhpfhnbeagnaaaGreatDoor
open Go.RowKit
set_option maxHeartbeats 16000000 in
set_option maxRecDepth 100000 in
theorem computed0_any (a b : Txt) (w : World) (hG : Glob w) (ha : a.length ≤ 400) (hb : b.length ≤ 400) :
    Calls Tryz.prog 99 #[.int .i64 0, txt a, txt b] w (ResPost (addS a b) w) := by
  have HG := Lib.hid hG
  have HPA := Lib.hid (fun W (hW : Ext w W) => parsed_any a W (hG.ext hW) ha)
  have HPB := Lib.hid (fun W (hW : Ext w W) => parsed_any b W (hG.ext hW) hb)
  have HRES := Lib.hid (@add_res a b)
  clear hG
  go_enter Tryz.func99, Tryz.ntmps99
  go_wp2_with fail
  refine (HPA.out _ (Ext.refl _)).mono ?_
  rintro e w1 ⟨v1, rfl, ⟨s1, ta, tn, tc, ba, bn, bc, rfl⟩, hn1, hE⟩
  have HN1 := Lib.hid hn1
  clear hn1 HPA
  by_cases ea : fracE a = 0
  rotate_left
  · have HR := Lib.hid (HRES.out.1 ea)
    have hne : (((fracE a : Nat) : Int) != 0) = true := by rw [bne_iff_ne]; omega
    clear HN1 HPB HRES
    generalize fracE a = n at *
    go_wp2_with fail
    go_ret2
    exact ⟨by rw [HR.out]; rfl, extA⟩
  have HNA := Lib.hid (HN1.out ea)
  rw [ea]
  have HEA := Lib.hid ea
  clear ea HN1
  have EV : Ext w1 (w1.alloc (.cells #[.bool s1, .slice ta tn tc, .slice ba bn bc] 157)) := extA
  have X : Num3 w1.heap.size (w1.alloc (.cells #[.bool s1, .slice ta tn tc, .slice ba bn bc] 157)) (.bool s1) (.slice ta tn tc) (.slice ba bn bc) := ⟨by go_simp, by go_simp, by go_simp, by go_simp, by go_simp, by go_simp⟩
  have E := hE.trans EV
  replace HNA := Lib.hid (HNA.out.ext EV)
  clear EV hE
  go_wp2_with fail
  obtain ⟨xb, hxb⟩ : ∃ xb, xb = w1.heap.size := ⟨_, rfl⟩
  rw [← hxb] at X ⊢
  clear hxb
  generalize (w1.alloc (.cells #[.bool s1, .slice ta tn tc, .slice ba bn bc] 157)) = W1 at X E HNA ⊢
  refine (HPB.out _ E).mono ?_
  rintro e w3 ⟨v2, rfl, ⟨s2, ua, un, uc, va, vn, vc, rfl⟩, hn2, hE⟩
  replace X := X.ext hE
  replace E := E.trans hE
  replace HNA := Lib.hid (HNA.out.ext hE)
  have HN2 := Lib.hid hn2
  clear hn2 HPB hE
  by_cases eb : fracE b = 0
  rotate_left
  · have HR := Lib.hid (HRES.out.2.1 HEA.out eb)
    have hne : (((fracE b : Nat) : Int) != 0) = true := by rw [bne_iff_ne]; omega
    clear HN2 HRES HEA
    generalize fracE b = n at *
    go_wp2_with fail
    go_ret2
    exact ⟨by rw [HR.out]; rfl, extA⟩
  have HNB := Lib.hid (HN2.out eb)
  rw [eb]
  have HEB := Lib.hid eb
  clear eb HN2
  have EV : Ext w3 (w3.alloc (.cells #[.bool s2, .slice ua un uc, .slice va vn vc] 157)) := extA
  have Y : Num3 w3.heap.size (w3.alloc (.cells #[.bool s2, .slice ua un uc, .slice va vn vc] 157)) (.bool s2) (.slice ua un uc) (.slice va vn vc) := ⟨by go_simp, by go_simp, by go_simp, by go_simp, by go_simp, by go_simp⟩
  replace X := X.ext EV
  replace E := E.trans EV
  replace HNA := Lib.hid (HNA.out.ext EV)
  replace HNB := Lib.hid (HNB.out.ext EV)
  clear EV
  go_wp2_with fail
  obtain ⟨yb, hyb⟩ : ∃ yb, yb = w3.heap.size := ⟨_, rfl⟩
  rw [← hyb] at Y ⊢
  clear hyb
  generalize (w3.alloc (.cells #[.bool s2, .slice ua un uc, .slice va vn vc] 157)) = W3 at X Y E HNA HNB ⊢
  have hix := op_index0
  have hfi := op_field
  have hxa := (numOf_len HEA.out).1
  have hyb := (numOf_len HEB.out).1
  go_cut [11, 9] (fun n ev wx => ∃ nb z0 z1 zn zc z2 zm zd, n = .pointer (some ⟨nb, 0, none⟩) ∧ ev = .int .i64 0 ∧ Hid (Num3 nb wx (.bool z0) (.slice z1 zn zc) (.slice z2 zm zd)) ∧ Hid (NumV wx (.agg #[.bool z0, .slice z1 zn zc, .slice z2 zm zd]) (sumN (numOf a) (numOf b))) ∧ Ext w wx)
  case first =>
    have hdr : Ext W3 W3.drew := extA
    replace X := X.ext hdr
    replace Y := Y.ext hdr
    replace E := E.trans hdr
    replace HNA := Lib.hid (HNA.out.ext hdr)
    replace HNB := Lib.hid (HNB.out.ext hdr)
    have hS : W3.drew.cell? ⟨xb, 0, none⟩ = some (.bool s1) ∧ W3.drew.cell? ⟨xb, 1, none⟩ = some (.slice ta tn tc) ∧ W3.drew.cell? ⟨xb, 2, none⟩ = some (.slice ba bn bc) ∧ W3.drew.cell? ⟨yb, 0, none⟩ = some (.bool s2) ∧ W3.drew.cell? ⟨yb, 1, none⟩ = some (.slice ua un uc) ∧ W3.drew.cell? ⟨yb, 2, none⟩ = some (.slice va vn vc) := ⟨X.c0, X.c1, X.c2, Y.c0, Y.c1, Y.c2⟩
    refine wp_region_heldE 11 (fun w' => w'.cell? ⟨xb, 0, none⟩ = some (.bool s1) ∧ w'.cell? ⟨xb, 1, none⟩ = some (.slice ta tn tc) ∧ w'.cell? ⟨xb, 2, none⟩ = some (.slice ba bn bc) ∧ w'.cell? ⟨yb, 0, none⟩ = some (.bool s2) ∧ w'.cell? ⟨yb, 1, none⟩ = some (.slice ua un uc) ∧ w'.cell? ⟨yb, 2, none⟩ = some (.slice va vn vc)) (by kernel_rfl) ?_
    clear hdr X Y
    generalize W3.drew = W4 at E HNA HNB hS ⊢
    ((refine eTk 1 ?_); (refine eTk 4 ?_); (refine eTk 5 ?_))
    refine wpAnyE_two (i := 0) (j := 10) (o := ?_) (p := ?_) ?_ ?_ (by kernel_rfl) (fun K hK => ?_) (fun K hK => ?_)
    rotate_left 2
    · simp only [List.getElem?_toArray, List.getElem?_cons_zero]; exact rfl
    · simp only [List.getElem?_toArray, List.getElem?_cons_succ, List.getElem?_cons_zero]; exact rfl
    · go_simp
      go_at_call 126
      refine (operations_any _).mono ?_
      rintro e w5 ⟨rfl, hE⟩
      go_wp2_with fail
      have hS5 : w5.cell? ⟨xb, 0, none⟩ = some (.bool s1) ∧ w5.cell? ⟨xb, 1, none⟩ = some (.slice ta tn tc) ∧ w5.cell? ⟨xb, 2, none⟩ = some (.slice ba bn bc) ∧ w5.cell? ⟨yb, 0, none⟩ = some (.bool s2) ∧ w5.cell? ⟨yb, 1, none⟩ = some (.slice ua un uc) ∧ w5.cell? ⟨yb, 2, none⟩ = some (.slice va vn vc) := ⟨hE.cell hS.1, hE.cell hS.2.1, hE.cell hS.2.2.1, hE.cell hS.2.2.2.1, hE.cell hS.2.2.2.2.1, hE.cell hS.2.2.2.2.2⟩
      refine hK.out _ _ hS5 (fun hHeld => ?_)
      clear hK K hHeld
      (try simp only [Act.put, List.setIfInBounds_toArray, List.set_cons_zero, List.set_cons_succ])
      replace E := E.trans hE
      replace HNA := Lib.hid (HNA.out.ext hE)
      replace HNB := Lib.hid (HNB.out.ext hE)
      clear hE hS
      ((refine eTk 2 ?_); (refine eTk 3 ?_))
      refine wpAnyE_two (i := 6) (j := 10) (o := ?_) (p := ?_) ?_ ?_ (by kernel_rfl) (fun K hK => ?_) (fun K hK => ?_)
      rotate_left 2
      · simp only [List.getElem?_toArray, List.getElem?_cons_succ, List.getElem?_cons_zero]; exact rfl
      · simp only [List.getElem?_toArray, List.getElem?_cons_succ, List.getElem?_cons_zero]; exact rfl
      · go_simp
        go_at_call 143
        refine (op0_any (numOf a) (numOf b) _ _ _ HNA.out HNB.out hxa hyb).mono ?_; rintro e w6 ⟨z, rfl, hz, hzn, hE⟩; obtain ⟨z1, zc, z2, zd, rfl, k1, k2⟩ := hz
        go_wp2_with fail
        have hS6 : w6.cell? ⟨xb, 0, none⟩ = some (.bool s1) ∧ w6.cell? ⟨xb, 1, none⟩ = some (.slice ta tn tc) ∧ w6.cell? ⟨xb, 2, none⟩ = some (.slice ba bn bc) ∧ w6.cell? ⟨yb, 0, none⟩ = some (.bool s2) ∧ w6.cell? ⟨yb, 1, none⟩ = some (.slice ua un uc) ∧ w6.cell? ⟨yb, 2, none⟩ = some (.slice va vn vc) := ⟨hE.cell hS5.1, hE.cell hS5.2.1, hE.cell hS5.2.2.1, hE.cell hS5.2.2.2.1, hE.cell hS5.2.2.2.2.1, hE.cell hS5.2.2.2.2.2⟩
        refine hK.out _ _ hS6 (fun hHeld => ?_)
        clear hK K hHeld hS5
        (try simp only [Act.put, List.setIfInBounds_toArray, List.set_cons_zero, List.set_cons_succ])
        ((refine ePu 7 ?_); (refine ePu 8 ?_); (refine ePu 9 ?_))
        have EA : Ext w6 (w6.alloc (.cells #[.bool false, .slice none 0 0, .slice none 0 0] 157)) := extA
        have N : Num3 w6.heap.size (w6.alloc (.cells #[.bool false, .slice none 0 0, .slice none 0 0] 157)) (.bool false) (.slice none 0 0) (.slice none 0 0) := ⟨by go_simp, by go_simp, by go_simp, by go_simp, by go_simp, by go_simp⟩
        (refine wpAnyE_one (i := 10) (o := ?_) ?_ (by kernel_rfl) (fun K hK => ?_); rotate_left; (focus ((simp only [List.getElem?_toArray, List.getElem?_cons_succ, List.getElem?_cons_zero]; exact rfl))); go_simp; refine hK.out _ _ ?_ (fun hHeld => ?_); rotate_left; clear hK K; (try simp only [Act.put, List.setIfInBounds_toArray, List.set_cons_zero, List.set_cons_succ]))
        rotate_left
        · exact ⟨EA.cell hS6.1, EA.cell hS6.2.1, EA.cell hS6.2.2.1, EA.cell hS6.2.2.2.1, EA.cell hS6.2.2.2.2.1, EA.cell hS6.2.2.2.2.2⟩
        obtain ⟨nb, hnb⟩ : ∃ nb, nb = w6.heap.size := ⟨_, rfl⟩
        rw [← hnb] at N ⊢
        have hnw : w6.heap.size ≤ nb := by omega
        have hww : w.heap.size ≤ nb := by have := (E.trans hE).size; omega
        have E6 := (E.trans hE).trans EA
        have HEA := Lib.hid EA
        clear EA hS6 hHeld hnb E hE
        generalize (w6.alloc (.cells #[.bool false, .slice none 0 0, .slice none 0 0] 157)) = W7 at N HEA E6 ⊢
        have HN := Lib.hid N
        obtain ⟨x0, x1, x2, g0, g1, g2⟩ := N
        (refine wpAnyE_free (i := 11) (o := ?_) ?_ (by kernel_rfl) (by kernel_rfl) (fun K hK => ?_); rotate_left; (focus ((simp only [List.getElem?_toArray, List.getElem?_cons_succ, List.getElem?_cons_zero]; exact rfl))); go_simp; refine hK.out _ _ ?_; clear hK K; (try simp only [Act.put, List.setIfInBounds_toArray, List.set_cons_zero, List.set_cons_succ]))
        ((refine ePu 12 ?_))
        refine wpAnyE_done (by kernel_rfl) ?_ _
        go_wp2_with fail
        go_meet
        refine ⟨nb, _, _, _, _, _, _, _, rfl, rfl, ((HN.out.set0 _).set1 _).set2 _, ?_, extA⟩
        exact NumV.ext ⟨z1, zc, z2, zd, rfl, k1, k2⟩ (((HEA.out.set hnw _).set hnw _).set hnw _)
      · go_simp
        have EA : Ext w5 (w5.alloc (.cells #[.bool false, .slice none 0 0, .slice none 0 0] 157)) := extA
        have N : Num3 w5.heap.size (w5.alloc (.cells #[.bool false, .slice none 0 0, .slice none 0 0] 157)) (.bool false) (.slice none 0 0) (.slice none 0 0) := ⟨by go_simp, by go_simp, by go_simp, by go_simp, by go_simp, by go_simp⟩
        have hSA : (w5.alloc (.cells #[.bool false, .slice none 0 0, .slice none 0 0] 157)).cell? ⟨xb, 0, none⟩ = some (.bool s1) ∧ (w5.alloc (.cells #[.bool false, .slice none 0 0, .slice none 0 0] 157)).cell? ⟨xb, 1, none⟩ = some (.slice ta tn tc) ∧ (w5.alloc (.cells #[.bool false, .slice none 0 0, .slice none 0 0] 157)).cell? ⟨xb, 2, none⟩ = some (.slice ba bn bc) ∧ (w5.alloc (.cells #[.bool false, .slice none 0 0, .slice none 0 0] 157)).cell? ⟨yb, 0, none⟩ = some (.bool s2) ∧ (w5.alloc (.cells #[.bool false, .slice none 0 0, .slice none 0 0] 157)).cell? ⟨yb, 1, none⟩ = some (.slice ua un uc) ∧ (w5.alloc (.cells #[.bool false, .slice none 0 0, .slice none 0 0] 157)).cell? ⟨yb, 2, none⟩ = some (.slice va vn vc) := ⟨EA.cell hS5.1, EA.cell hS5.2.1, EA.cell hS5.2.2.1, EA.cell hS5.2.2.2.1, EA.cell hS5.2.2.2.2.1, EA.cell hS5.2.2.2.2.2⟩
        refine hK.out _ _ hSA (fun hHeld => ?_)
        clear hK K hHeld hS5
        (try simp only [Act.put, List.setIfInBounds_toArray, List.set_cons_zero, List.set_cons_succ])
        obtain ⟨nb, hnb⟩ : ∃ nb, nb = w5.heap.size := ⟨_, rfl⟩
        rw [← hnb] at N ⊢
        have hww : w.heap.size ≤ nb := by have := E.size; omega
        replace E := E.trans EA
        replace HNA := Lib.hid (HNA.out.ext EA)
        replace HNB := Lib.hid (HNB.out.ext EA)
        clear EA hnb
        generalize (w5.alloc (.cells #[.bool false, .slice none 0 0, .slice none 0 0] 157)) = w5 at N hSA E HNA HNB ⊢
        (refine wpAnyE_one (i := 6) (o := ?_) ?_ (by kernel_rfl) (fun K hK => ?_); rotate_left; (focus ((simp only [List.getElem?_toArray, List.getElem?_cons_succ, List.getElem?_cons_zero]; exact rfl))); go_simp; go_at_call 143; refine (op0_any (numOf a) (numOf b) _ _ _ HNA.out HNB.out hxa hyb).mono ?_; rintro e w6 ⟨z, rfl, hz, hzn, hE⟩; obtain ⟨z1, zc, z2, zd, rfl, k1, k2⟩ := hz; go_wp2_with fail; refine hK.out _ _ ?_ (fun hHeld => ?_); rotate_left; clear hK K; (try simp only [Act.put, List.setIfInBounds_toArray, List.set_cons_zero, List.set_cons_succ]))
        rotate_left
        · exact ⟨hE.cell hSA.1, hE.cell hSA.2.1, hE.cell hSA.2.2.1, hE.cell hSA.2.2.2.1, hE.cell hSA.2.2.2.2.1, hE.cell hSA.2.2.2.2.2⟩
        have N6 := N.ext hE
        have hnl : nb < w5.heap.size := cell_lt N.c0
        have E6 := E.trans hE
        clear hSA N E hE
        ((refine ePu 7 ?_); (refine ePu 8 ?_); (refine ePu 9 ?_))
        clear hHeld
        have HN := Lib.hid N6
        obtain ⟨x0, x1, x2, g0, g1, g2⟩ := N6
        (refine wpAnyE_free (i := 11) (o := ?_) ?_ (by kernel_rfl) (by kernel_rfl) (fun K hK => ?_); rotate_left; (focus ((simp only [List.getElem?_toArray, List.getElem?_cons_succ, List.getElem?_cons_zero]; exact rfl))); go_simp; refine hK.out _ _ ?_; clear hK K; (try simp only [Act.put, List.setIfInBounds_toArray, List.set_cons_zero, List.set_cons_succ]))
        ((refine ePu 12 ?_))
        refine wpAnyE_done (by kernel_rfl) ?_ _
        go_wp2_with fail
        go_meet
        refine ⟨nb, _, _, _, _, _, _, _, rfl, rfl, ((HN.out.set0 _).set1 _).set2 _, ?_, extA⟩
        exact NumV.set (NumV.set (NumV.set ⟨z1, zc, z2, zd, rfl, k1, k2⟩ hzn hnl) hzn hnl) hzn hnl
    · go_simp
      have EA : Ext W4 (W4.alloc (.cells #[.bool false, .slice none 0 0, .slice none 0 0] 157)) := extA
      have N : Num3 W4.heap.size (W4.alloc (.cells #[.bool false, .slice none 0 0, .slice none 0 0] 157)) (.bool false) (.slice none 0 0) (.slice none 0 0) := ⟨by go_simp, by go_simp, by go_simp, by go_simp, by go_simp, by go_simp⟩
      have hSA : (W4.alloc (.cells #[.bool false, .slice none 0 0, .slice none 0 0] 157)).cell? ⟨xb, 0, none⟩ = some (.bool s1) ∧ (W4.alloc (.cells #[.bool false, .slice none 0 0, .slice none 0 0] 157)).cell? ⟨xb, 1, none⟩ = some (.slice ta tn tc) ∧ (W4.alloc (.cells #[.bool false, .slice none 0 0, .slice none 0 0] 157)).cell? ⟨xb, 2, none⟩ = some (.slice ba bn bc) ∧ (W4.alloc (.cells #[.bool false, .slice none 0 0, .slice none 0 0] 157)).cell? ⟨yb, 0, none⟩ = some (.bool s2) ∧ (W4.alloc (.cells #[.bool false, .slice none 0 0, .slice none 0 0] 157)).cell? ⟨yb, 1, none⟩ = some (.slice ua un uc) ∧ (W4.alloc (.cells #[.bool false, .slice none 0 0, .slice none 0 0] 157)).cell? ⟨yb, 2, none⟩ = some (.slice va vn vc) := ⟨EA.cell hS.1, EA.cell hS.2.1, EA.cell hS.2.2.1, EA.cell hS.2.2.2.1, EA.cell hS.2.2.2.2.1, EA.cell hS.2.2.2.2.2⟩
      refine hK.out _ _ hSA (fun hHeld => ?_)
      clear hK K hHeld hS
      (try simp only [Act.put, List.setIfInBounds_toArray, List.set_cons_zero, List.set_cons_succ])
      obtain ⟨nb, hnb⟩ : ∃ nb, nb = W4.heap.size := ⟨_, rfl⟩
      rw [← hnb] at N ⊢
      have hww : w.heap.size ≤ nb := by have := E.size; omega
      replace E := E.trans EA
      replace HNA := Lib.hid (HNA.out.ext EA)
      replace HNB := Lib.hid (HNB.out.ext EA)
      clear EA hnb
      generalize (W4.alloc (.cells #[.bool false, .slice none 0 0, .slice none 0 0] 157)) = W5 at N hSA E HNA HNB ⊢
      (refine wpAnyE_one (i := 0) (o := ?_) ?_ (by kernel_rfl) (fun K hK => ?_); rotate_left; (focus ((simp only [List.getElem?_toArray, List.getElem?_cons_zero]; exact rfl))); go_simp; go_at_call 126; refine (operations_any _).mono ?_; rintro e w5 ⟨rfl, hE⟩; go_wp2_with fail; refine hK.out _ _ ?_ (fun hHeld => ?_); rotate_left; clear hK K; (try simp only [Act.put, List.setIfInBounds_toArray, List.set_cons_zero, List.set_cons_succ]))
      rotate_left
      · exact ⟨hE.cell hSA.1, hE.cell hSA.2.1, hE.cell hSA.2.2.1, hE.cell hSA.2.2.2.1, hE.cell hSA.2.2.2.2.1, hE.cell hSA.2.2.2.2.2⟩
      replace hSA : w5.cell? ⟨xb, 0, none⟩ = some (.bool s1) ∧ w5.cell? ⟨xb, 1, none⟩ = some (.slice ta tn tc) ∧ w5.cell? ⟨xb, 2, none⟩ = some (.slice ba bn bc) ∧ w5.cell? ⟨yb, 0, none⟩ = some (.bool s2) ∧ w5.cell? ⟨yb, 1, none⟩ = some (.slice ua un uc) ∧ w5.cell? ⟨yb, 2, none⟩ = some (.slice va vn vc) := ⟨hE.cell hSA.1, hE.cell hSA.2.1, hE.cell hSA.2.2.1, hE.cell hSA.2.2.2.1, hE.cell hSA.2.2.2.2.1, hE.cell hSA.2.2.2.2.2⟩
      replace N := N.ext hE
      replace E := E.trans hE
      replace HNA := Lib.hid (HNA.out.ext hE)
      replace HNB := Lib.hid (HNB.out.ext hE)
      clear hE hHeld
      ((refine eTk 2 ?_); (refine eTk 3 ?_))
      (refine wpAnyE_one (i := 6) (o := ?_) ?_ (by kernel_rfl) (fun K hK => ?_); rotate_left; (focus ((simp only [List.getElem?_toArray, List.getElem?_cons_succ, List.getElem?_cons_zero]; exact rfl))); go_simp; go_at_call 143; refine (op0_any (numOf a) (numOf b) _ _ _ HNA.out HNB.out hxa hyb).mono ?_; rintro e w6 ⟨z, rfl, hz, hzn, hE⟩; obtain ⟨z1, zc, z2, zd, rfl, k1, k2⟩ := hz; go_wp2_with fail; refine hK.out _ _ ?_ (fun hHeld => ?_); rotate_left; clear hK K; (try simp only [Act.put, List.setIfInBounds_toArray, List.set_cons_zero, List.set_cons_succ]))
      rotate_left
      · exact ⟨hE.cell hSA.1, hE.cell hSA.2.1, hE.cell hSA.2.2.1, hE.cell hSA.2.2.2.1, hE.cell hSA.2.2.2.2.1, hE.cell hSA.2.2.2.2.2⟩
      have N6 := N.ext hE
      have hnl : nb < w5.heap.size := cell_lt N.c0
      have E6 := E.trans hE
      clear hSA N E hE
      ((refine ePu 7 ?_); (refine ePu 8 ?_); (refine ePu 9 ?_))
      clear hHeld
      have HN := Lib.hid N6
      obtain ⟨x0, x1, x2, g0, g1, g2⟩ := N6
      (refine wpAnyE_free (i := 11) (o := ?_) ?_ (by kernel_rfl) (by kernel_rfl) (fun K hK => ?_); rotate_left; (focus ((simp only [List.getElem?_toArray, List.getElem?_cons_succ, List.getElem?_cons_zero]; exact rfl))); go_simp; refine hK.out _ _ ?_; clear hK K; (try simp only [Act.put, List.setIfInBounds_toArray, List.set_cons_zero, List.set_cons_succ]))
      ((refine ePu 12 ?_))
      refine wpAnyE_done (by kernel_rfl) ?_ _
      go_wp2_with fail
      go_meet
      refine ⟨nb, _, _, _, _, _, _, _, rfl, rfl, ((HN.out.set0 _).set1 _).set2 _, ?_, extA⟩
      exact NumV.set (NumV.set (NumV.set ⟨z1, zc, z2, zd, rfl, k1, k2⟩ hzn hnl) hzn hnl) hzn hnl
  case rest =>
    obtain ⟨nb, z0, z1, zn, zc, z2, zm, zd, rfl, rfl, N, HZ, E⟩ := hcut
    have ka := (numOf_len HEA.out).2
    have kb := (numOf_len HEB.out).2
    have hval : valQ (sumN (numOf a) (numOf b)) = fracQ a + fracQ b := (sumN_val ka kb).1.trans (by rw [numOf_val, numOf_val])
    have hden : (sumN (numOf a) (numOf b)).2.2 ≠ 0 := (sumN_val ka kb).2
    have hlen := sumN_len hxa hyb
    have HRR := Lib.hid (HRES.out.2.2 HEA.out HEB.out)
    generalize sumN (numOf a) (numOf b) = SN at *
    have HW := Lib.hid (written_any SN.1 SN.2.1 SN.2.2 _ _ HZ.out hden (HG.out.ext E) hlen.1 hlen.2)
    have HV := Lib.hid (show numQ SN.1 SN.2.1 SN.2.2 = fracQ a + fracQ b from hval)
    obtain ⟨x0, x1, x2, _, _, _⟩ := N.out
    clear X Y HNA HNB HRES HZ N hval hden hlen ka kb hxa hyb
    go_wp2_with (go_at_call 127; refine HW.out.mono ?_; rintro e w9 ⟨rfl, hE⟩)
    go_ret2
    exact ⟨by rw [HRR.out, HV.out]; rfl, E.trans hE⟩
end Go.Proofs.YtlhpfhnbeagnaaaGreatDoor
namespace Go.Proofs.YtlhpfhnbeagnaaaGreatDoor
open Go.RowKit
set_option maxHeartbeats 16000000 in
set_option maxRecDepth 100000 in
theorem computed1_any (a b : Txt) (w : World) (hG : Glob w) (ha : a.length ≤ 400) (hb : b.length ≤ 400) :
    Calls Tryz.prog 99 #[.int .i64 1, txt a, txt b] w (ResPost (subS a b) w) := by
  have HG := Lib.hid hG
  have HPA := Lib.hid (fun W (hW : Ext w W) => parsed_any a W (hG.ext hW) ha)
  have HPB := Lib.hid (fun W (hW : Ext w W) => parsed_any b W (hG.ext hW) hb)
  have HRES := Lib.hid (@sub_res a b)
  clear hG
  go_enter Tryz.func99, Tryz.ntmps99
  go_wp2_with fail
  refine (HPA.out _ (Ext.refl _)).mono ?_
  rintro e w1 ⟨v1, rfl, ⟨s1, ta, tn, tc, ba, bn, bc, rfl⟩, hn1, hE⟩
  have HN1 := Lib.hid hn1
  clear hn1 HPA
  by_cases ea : fracE a = 0
  rotate_left
  · have HR := Lib.hid (HRES.out.1 ea)
    have hne : (((fracE a : Nat) : Int) != 0) = true := by rw [bne_iff_ne]; omega
    clear HN1 HPB HRES
    generalize fracE a = n at *
    go_wp2_with fail
    go_ret2
    exact ⟨by rw [HR.out]; rfl, extA⟩
  have HNA := Lib.hid (HN1.out ea)
  rw [ea]
  have HEA := Lib.hid ea
  clear ea HN1
  have EV : Ext w1 (w1.alloc (.cells #[.bool s1, .slice ta tn tc, .slice ba bn bc] 157)) := extA
  have X : Num3 w1.heap.size (w1.alloc (.cells #[.bool s1, .slice ta tn tc, .slice ba bn bc] 157)) (.bool s1) (.slice ta tn tc) (.slice ba bn bc) := ⟨by go_simp, by go_simp, by go_simp, by go_simp, by go_simp, by go_simp⟩
  have E := hE.trans EV
  replace HNA := Lib.hid (HNA.out.ext EV)
  clear EV hE
  go_wp2_with fail
  obtain ⟨xb, hxb⟩ : ∃ xb, xb = w1.heap.size := ⟨_, rfl⟩
  rw [← hxb] at X ⊢
  clear hxb
  generalize (w1.alloc (.cells #[.bool s1, .slice ta tn tc, .slice ba bn bc] 157)) = W1 at X E HNA ⊢
  refine (HPB.out _ E).mono ?_
  rintro e w3 ⟨v2, rfl, ⟨s2, ua, un, uc, va, vn, vc, rfl⟩, hn2, hE⟩
  replace X := X.ext hE
  replace E := E.trans hE
  replace HNA := Lib.hid (HNA.out.ext hE)
  have HN2 := Lib.hid hn2
  clear hn2 HPB hE
  by_cases eb : fracE b = 0
  rotate_left
  · have HR := Lib.hid (HRES.out.2.1 HEA.out eb)
    have hne : (((fracE b : Nat) : Int) != 0) = true := by rw [bne_iff_ne]; omega
    clear HN2 HRES HEA
    generalize fracE b = n at *
    go_wp2_with fail
    go_ret2
    exact ⟨by rw [HR.out]; rfl, extA⟩
  have HNB := Lib.hid (HN2.out eb)
  rw [eb]
  have HEB := Lib.hid eb
  clear eb HN2
  have EV : Ext w3 (w3.alloc (.cells #[.bool s2, .slice ua un uc, .slice va vn vc] 157)) := extA
  have Y : Num3 w3.heap.size (w3.alloc (.cells #[.bool s2, .slice ua un uc, .slice va vn vc] 157)) (.bool s2) (.slice ua un uc) (.slice va vn vc) := ⟨by go_simp, by go_simp, by go_simp, by go_simp, by go_simp, by go_simp⟩
  replace X := X.ext EV
  replace E := E.trans EV
  replace HNA := Lib.hid (HNA.out.ext EV)
  replace HNB := Lib.hid (HNB.out.ext EV)
  clear EV
  go_wp2_with fail
  obtain ⟨yb, hyb⟩ : ∃ yb, yb = w3.heap.size := ⟨_, rfl⟩
  rw [← hyb] at Y ⊢
  clear hyb
  generalize (w3.alloc (.cells #[.bool s2, .slice ua un uc, .slice va vn vc] 157)) = W3 at X Y E HNA HNB ⊢
  have hix := op_index1
  have hfi := op_field
  have hxa := (numOf_len HEA.out).1
  have hyb := (numOf_len HEB.out).1
  go_cut [11, 9] (fun n ev wx => ∃ nb z0 z1 zn zc z2 zm zd, n = .pointer (some ⟨nb, 0, none⟩) ∧ ev = .int .i64 0 ∧ Hid (Num3 nb wx (.bool z0) (.slice z1 zn zc) (.slice z2 zm zd)) ∧ Hid (NumV wx (.agg #[.bool z0, .slice z1 zn zc, .slice z2 zm zd]) (sumN (numOf a) (negN (numOf b)))) ∧ Ext w wx)
  case first =>
    have hdr : Ext W3 W3.drew := extA
    replace X := X.ext hdr
    replace Y := Y.ext hdr
    replace E := E.trans hdr
    replace HNA := Lib.hid (HNA.out.ext hdr)
    replace HNB := Lib.hid (HNB.out.ext hdr)
    have hS : W3.drew.cell? ⟨xb, 0, none⟩ = some (.bool s1) ∧ W3.drew.cell? ⟨xb, 1, none⟩ = some (.slice ta tn tc) ∧ W3.drew.cell? ⟨xb, 2, none⟩ = some (.slice ba bn bc) ∧ W3.drew.cell? ⟨yb, 0, none⟩ = some (.bool s2) ∧ W3.drew.cell? ⟨yb, 1, none⟩ = some (.slice ua un uc) ∧ W3.drew.cell? ⟨yb, 2, none⟩ = some (.slice va vn vc) := ⟨X.c0, X.c1, X.c2, Y.c0, Y.c1, Y.c2⟩
    refine wp_region_heldE 11 (fun w' => w'.cell? ⟨xb, 0, none⟩ = some (.bool s1) ∧ w'.cell? ⟨xb, 1, none⟩ = some (.slice ta tn tc) ∧ w'.cell? ⟨xb, 2, none⟩ = some (.slice ba bn bc) ∧ w'.cell? ⟨yb, 0, none⟩ = some (.bool s2) ∧ w'.cell? ⟨yb, 1, none⟩ = some (.slice ua un uc) ∧ w'.cell? ⟨yb, 2, none⟩ = some (.slice va vn vc)) (by kernel_rfl) ?_
    clear hdr X Y
    generalize W3.drew = W4 at E HNA HNB hS ⊢
    ((refine eTk 1 ?_); (refine eTk 4 ?_); (refine eTk 5 ?_))
    refine wpAnyE_two (i := 0) (j := 10) (o := ?_) (p := ?_) ?_ ?_ (by kernel_rfl) (fun K hK => ?_) (fun K hK => ?_)
    rotate_left 2
    · simp only [List.getElem?_toArray, List.getElem?_cons_zero]; exact rfl
    · simp only [List.getElem?_toArray, List.getElem?_cons_succ, List.getElem?_cons_zero]; exact rfl
    · go_simp
      go_at_call 126
      refine (operations_any _).mono ?_
      rintro e w5 ⟨rfl, hE⟩
      go_wp2_with fail
      have hS5 : w5.cell? ⟨xb, 0, none⟩ = some (.bool s1) ∧ w5.cell? ⟨xb, 1, none⟩ = some (.slice ta tn tc) ∧ w5.cell? ⟨xb, 2, none⟩ = some (.slice ba bn bc) ∧ w5.cell? ⟨yb, 0, none⟩ = some (.bool s2) ∧ w5.cell? ⟨yb, 1, none⟩ = some (.slice ua un uc) ∧ w5.cell? ⟨yb, 2, none⟩ = some (.slice va vn vc) := ⟨hE.cell hS.1, hE.cell hS.2.1, hE.cell hS.2.2.1, hE.cell hS.2.2.2.1, hE.cell hS.2.2.2.2.1, hE.cell hS.2.2.2.2.2⟩
      refine hK.out _ _ hS5 (fun hHeld => ?_)
      clear hK K hHeld
      (try simp only [Act.put, List.setIfInBounds_toArray, List.set_cons_zero, List.set_cons_succ])
      replace E := E.trans hE
      replace HNA := Lib.hid (HNA.out.ext hE)
      replace HNB := Lib.hid (HNB.out.ext hE)
      clear hE hS
      ((refine eTk 2 ?_); (refine eTk 3 ?_))
      refine wpAnyE_two (i := 6) (j := 10) (o := ?_) (p := ?_) ?_ ?_ (by kernel_rfl) (fun K hK => ?_) (fun K hK => ?_)
      rotate_left 2
      · simp only [List.getElem?_toArray, List.getElem?_cons_succ, List.getElem?_cons_zero]; exact rfl
      · simp only [List.getElem?_toArray, List.getElem?_cons_succ, List.getElem?_cons_zero]; exact rfl
      · go_simp
        go_at_call 144
        refine (op1_any (numOf a) (numOf b) _ _ _ HNA.out HNB.out hxa hyb).mono ?_; rintro e w6 ⟨z, rfl, hz, hzn, hE⟩; obtain ⟨z1, zc, z2, zd, rfl, k1, k2⟩ := hz
        go_wp2_with fail
        have hS6 : w6.cell? ⟨xb, 0, none⟩ = some (.bool s1) ∧ w6.cell? ⟨xb, 1, none⟩ = some (.slice ta tn tc) ∧ w6.cell? ⟨xb, 2, none⟩ = some (.slice ba bn bc) ∧ w6.cell? ⟨yb, 0, none⟩ = some (.bool s2) ∧ w6.cell? ⟨yb, 1, none⟩ = some (.slice ua un uc) ∧ w6.cell? ⟨yb, 2, none⟩ = some (.slice va vn vc) := ⟨hE.cell hS5.1, hE.cell hS5.2.1, hE.cell hS5.2.2.1, hE.cell hS5.2.2.2.1, hE.cell hS5.2.2.2.2.1, hE.cell hS5.2.2.2.2.2⟩
        refine hK.out _ _ hS6 (fun hHeld => ?_)
        clear hK K hHeld hS5
        (try simp only [Act.put, List.setIfInBounds_toArray, List.set_cons_zero, List.set_cons_succ])
        ((refine ePu 7 ?_); (refine ePu 8 ?_); (refine ePu 9 ?_))
        have EA : Ext w6 (w6.alloc (.cells #[.bool false, .slice none 0 0, .slice none 0 0] 157)) := extA
        have N : Num3 w6.heap.size (w6.alloc (.cells #[.bool false, .slice none 0 0, .slice none 0 0] 157)) (.bool false) (.slice none 0 0) (.slice none 0 0) := ⟨by go_simp, by go_simp, by go_simp, by go_simp, by go_simp, by go_simp⟩
        (refine wpAnyE_one (i := 10) (o := ?_) ?_ (by kernel_rfl) (fun K hK => ?_); rotate_left; (focus ((simp only [List.getElem?_toArray, List.getElem?_cons_succ, List.getElem?_cons_zero]; exact rfl))); go_simp; refine hK.out _ _ ?_ (fun hHeld => ?_); rotate_left; clear hK K; (try simp only [Act.put, List.setIfInBounds_toArray, List.set_cons_zero, List.set_cons_succ]))
        rotate_left
        · exact ⟨EA.cell hS6.1, EA.cell hS6.2.1, EA.cell hS6.2.2.1, EA.cell hS6.2.2.2.1, EA.cell hS6.2.2.2.2.1, EA.cell hS6.2.2.2.2.2⟩
        obtain ⟨nb, hnb⟩ : ∃ nb, nb = w6.heap.size := ⟨_, rfl⟩
        rw [← hnb] at N ⊢
        have hnw : w6.heap.size ≤ nb := by omega
        have hww : w.heap.size ≤ nb := by have := (E.trans hE).size; omega
        have E6 := (E.trans hE).trans EA
        have HEA := Lib.hid EA
        clear EA hS6 hHeld hnb E hE
        generalize (w6.alloc (.cells #[.bool false, .slice none 0 0, .slice none 0 0] 157)) = W7 at N HEA E6 ⊢
        have HN := Lib.hid N
        obtain ⟨x0, x1, x2, g0, g1, g2⟩ := N
        (refine wpAnyE_free (i := 11) (o := ?_) ?_ (by kernel_rfl) (by kernel_rfl) (fun K hK => ?_); rotate_left; (focus ((simp only [List.getElem?_toArray, List.getElem?_cons_succ, List.getElem?_cons_zero]; exact rfl))); go_simp; refine hK.out _ _ ?_; clear hK K; (try simp only [Act.put, List.setIfInBounds_toArray, List.set_cons_zero, List.set_cons_succ]))
        ((refine ePu 12 ?_))
        refine wpAnyE_done (by kernel_rfl) ?_ _
        go_wp2_with fail
        go_meet
        refine ⟨nb, _, _, _, _, _, _, _, rfl, rfl, ((HN.out.set0 _).set1 _).set2 _, ?_, extA⟩
        exact NumV.ext ⟨z1, zc, z2, zd, rfl, k1, k2⟩ (((HEA.out.set hnw _).set hnw _).set hnw _)
      · go_simp
        have EA : Ext w5 (w5.alloc (.cells #[.bool false, .slice none 0 0, .slice none 0 0] 157)) := extA
        have N : Num3 w5.heap.size (w5.alloc (.cells #[.bool false, .slice none 0 0, .slice none 0 0] 157)) (.bool false) (.slice none 0 0) (.slice none 0 0) := ⟨by go_simp, by go_simp, by go_simp, by go_simp, by go_simp, by go_simp⟩
        have hSA : (w5.alloc (.cells #[.bool false, .slice none 0 0, .slice none 0 0] 157)).cell? ⟨xb, 0, none⟩ = some (.bool s1) ∧ (w5.alloc (.cells #[.bool false, .slice none 0 0, .slice none 0 0] 157)).cell? ⟨xb, 1, none⟩ = some (.slice ta tn tc) ∧ (w5.alloc (.cells #[.bool false, .slice none 0 0, .slice none 0 0] 157)).cell? ⟨xb, 2, none⟩ = some (.slice ba bn bc) ∧ (w5.alloc (.cells #[.bool false, .slice none 0 0, .slice none 0 0] 157)).cell? ⟨yb, 0, none⟩ = some (.bool s2) ∧ (w5.alloc (.cells #[.bool false, .slice none 0 0, .slice none 0 0] 157)).cell? ⟨yb, 1, none⟩ = some (.slice ua un uc) ∧ (w5.alloc (.cells #[.bool false, .slice none 0 0, .slice none 0 0] 157)).cell? ⟨yb, 2, none⟩ = some (.slice va vn vc) := ⟨EA.cell hS5.1, EA.cell hS5.2.1, EA.cell hS5.2.2.1, EA.cell hS5.2.2.2.1, EA.cell hS5.2.2.2.2.1, EA.cell hS5.2.2.2.2.2⟩
        refine hK.out _ _ hSA (fun hHeld => ?_)
        clear hK K hHeld hS5
        (try simp only [Act.put, List.setIfInBounds_toArray, List.set_cons_zero, List.set_cons_succ])
        obtain ⟨nb, hnb⟩ : ∃ nb, nb = w5.heap.size := ⟨_, rfl⟩
        rw [← hnb] at N ⊢
        have hww : w.heap.size ≤ nb := by have := E.size; omega
        replace E := E.trans EA
        replace HNA := Lib.hid (HNA.out.ext EA)
        replace HNB := Lib.hid (HNB.out.ext EA)
        clear EA hnb
        generalize (w5.alloc (.cells #[.bool false, .slice none 0 0, .slice none 0 0] 157)) = w5 at N hSA E HNA HNB ⊢
        (refine wpAnyE_one (i := 6) (o := ?_) ?_ (by kernel_rfl) (fun K hK => ?_); rotate_left; (focus ((simp only [List.getElem?_toArray, List.getElem?_cons_succ, List.getElem?_cons_zero]; exact rfl))); go_simp; go_at_call 144; refine (op1_any (numOf a) (numOf b) _ _ _ HNA.out HNB.out hxa hyb).mono ?_; rintro e w6 ⟨z, rfl, hz, hzn, hE⟩; obtain ⟨z1, zc, z2, zd, rfl, k1, k2⟩ := hz; go_wp2_with fail; refine hK.out _ _ ?_ (fun hHeld => ?_); rotate_left; clear hK K; (try simp only [Act.put, List.setIfInBounds_toArray, List.set_cons_zero, List.set_cons_succ]))
        rotate_left
        · exact ⟨hE.cell hSA.1, hE.cell hSA.2.1, hE.cell hSA.2.2.1, hE.cell hSA.2.2.2.1, hE.cell hSA.2.2.2.2.1, hE.cell hSA.2.2.2.2.2⟩
        have N6 := N.ext hE
        have hnl : nb < w5.heap.size := cell_lt N.c0
        have E6 := E.trans hE
        clear hSA N E hE
        ((refine ePu 7 ?_); (refine ePu 8 ?_); (refine ePu 9 ?_))
        clear hHeld
        have HN := Lib.hid N6
        obtain ⟨x0, x1, x2, g0, g1, g2⟩ := N6
        (refine wpAnyE_free (i := 11) (o := ?_) ?_ (by kernel_rfl) (by kernel_rfl) (fun K hK => ?_); rotate_left; (focus ((simp only [List.getElem?_toArray, List.getElem?_cons_succ, List.getElem?_cons_zero]; exact rfl))); go_simp; refine hK.out _ _ ?_; clear hK K; (try simp only [Act.put, List.setIfInBounds_toArray, List.set_cons_zero, List.set_cons_succ]))
        ((refine ePu 12 ?_))
        refine wpAnyE_done (by kernel_rfl) ?_ _
        go_wp2_with fail
        go_meet
        refine ⟨nb, _, _, _, _, _, _, _, rfl, rfl, ((HN.out.set0 _).set1 _).set2 _, ?_, extA⟩
        exact NumV.set (NumV.set (NumV.set ⟨z1, zc, z2, zd, rfl, k1, k2⟩ hzn hnl) hzn hnl) hzn hnl
    · go_simp
      have EA : Ext W4 (W4.alloc (.cells #[.bool false, .slice none 0 0, .slice none 0 0] 157)) := extA
      have N : Num3 W4.heap.size (W4.alloc (.cells #[.bool false, .slice none 0 0, .slice none 0 0] 157)) (.bool false) (.slice none 0 0) (.slice none 0 0) := ⟨by go_simp, by go_simp, by go_simp, by go_simp, by go_simp, by go_simp⟩
      have hSA : (W4.alloc (.cells #[.bool false, .slice none 0 0, .slice none 0 0] 157)).cell? ⟨xb, 0, none⟩ = some (.bool s1) ∧ (W4.alloc (.cells #[.bool false, .slice none 0 0, .slice none 0 0] 157)).cell? ⟨xb, 1, none⟩ = some (.slice ta tn tc) ∧ (W4.alloc (.cells #[.bool false, .slice none 0 0, .slice none 0 0] 157)).cell? ⟨xb, 2, none⟩ = some (.slice ba bn bc) ∧ (W4.alloc (.cells #[.bool false, .slice none 0 0, .slice none 0 0] 157)).cell? ⟨yb, 0, none⟩ = some (.bool s2) ∧ (W4.alloc (.cells #[.bool false, .slice none 0 0, .slice none 0 0] 157)).cell? ⟨yb, 1, none⟩ = some (.slice ua un uc) ∧ (W4.alloc (.cells #[.bool false, .slice none 0 0, .slice none 0 0] 157)).cell? ⟨yb, 2, none⟩ = some (.slice va vn vc) := ⟨EA.cell hS.1, EA.cell hS.2.1, EA.cell hS.2.2.1, EA.cell hS.2.2.2.1, EA.cell hS.2.2.2.2.1, EA.cell hS.2.2.2.2.2⟩
      refine hK.out _ _ hSA (fun hHeld => ?_)
      clear hK K hHeld hS
      (try simp only [Act.put, List.setIfInBounds_toArray, List.set_cons_zero, List.set_cons_succ])
      obtain ⟨nb, hnb⟩ : ∃ nb, nb = W4.heap.size := ⟨_, rfl⟩
      rw [← hnb] at N ⊢
      have hww : w.heap.size ≤ nb := by have := E.size; omega
      replace E := E.trans EA
      replace HNA := Lib.hid (HNA.out.ext EA)
      replace HNB := Lib.hid (HNB.out.ext EA)
      clear EA hnb
      generalize (W4.alloc (.cells #[.bool false, .slice none 0 0, .slice none 0 0] 157)) = W5 at N hSA E HNA HNB ⊢
      (refine wpAnyE_one (i := 0) (o := ?_) ?_ (by kernel_rfl) (fun K hK => ?_); rotate_left; (focus ((simp only [List.getElem?_toArray, List.getElem?_cons_zero]; exact rfl))); go_simp; go_at_call 126; refine (operations_any _).mono ?_; rintro e w5 ⟨rfl, hE⟩; go_wp2_with fail; refine hK.out _ _ ?_ (fun hHeld => ?_); rotate_left; clear hK K; (try simp only [Act.put, List.setIfInBounds_toArray, List.set_cons_zero, List.set_cons_succ]))
      rotate_left
      · exact ⟨hE.cell hSA.1, hE.cell hSA.2.1, hE.cell hSA.2.2.1, hE.cell hSA.2.2.2.1, hE.cell hSA.2.2.2.2.1, hE.cell hSA.2.2.2.2.2⟩
      replace hSA : w5.cell? ⟨xb, 0, none⟩ = some (.bool s1) ∧ w5.cell? ⟨xb, 1, none⟩ = some (.slice ta tn tc) ∧ w5.cell? ⟨xb, 2, none⟩ = some (.slice ba bn bc) ∧ w5.cell? ⟨yb, 0, none⟩ = some (.bool s2) ∧ w5.cell? ⟨yb, 1, none⟩ = some (.slice ua un uc) ∧ w5.cell? ⟨yb, 2, none⟩ = some (.slice va vn vc) := ⟨hE.cell hSA.1, hE.cell hSA.2.1, hE.cell hSA.2.2.1, hE.cell hSA.2.2.2.1, hE.cell hSA.2.2.2.2.1, hE.cell hSA.2.2.2.2.2⟩
      replace N := N.ext hE
      replace E := E.trans hE
      replace HNA := Lib.hid (HNA.out.ext hE)
      replace HNB := Lib.hid (HNB.out.ext hE)
      clear hE hHeld
      ((refine eTk 2 ?_); (refine eTk 3 ?_))
      (refine wpAnyE_one (i := 6) (o := ?_) ?_ (by kernel_rfl) (fun K hK => ?_); rotate_left; (focus ((simp only [List.getElem?_toArray, List.getElem?_cons_succ, List.getElem?_cons_zero]; exact rfl))); go_simp; go_at_call 144; refine (op1_any (numOf a) (numOf b) _ _ _ HNA.out HNB.out hxa hyb).mono ?_; rintro e w6 ⟨z, rfl, hz, hzn, hE⟩; obtain ⟨z1, zc, z2, zd, rfl, k1, k2⟩ := hz; go_wp2_with fail; refine hK.out _ _ ?_ (fun hHeld => ?_); rotate_left; clear hK K; (try simp only [Act.put, List.setIfInBounds_toArray, List.set_cons_zero, List.set_cons_succ]))
      rotate_left
      · exact ⟨hE.cell hSA.1, hE.cell hSA.2.1, hE.cell hSA.2.2.1, hE.cell hSA.2.2.2.1, hE.cell hSA.2.2.2.2.1, hE.cell hSA.2.2.2.2.2⟩
      have N6 := N.ext hE
      have hnl : nb < w5.heap.size := cell_lt N.c0
      have E6 := E.trans hE
      clear hSA N E hE
      ((refine ePu 7 ?_); (refine ePu 8 ?_); (refine ePu 9 ?_))
      clear hHeld
      have HN := Lib.hid N6
      obtain ⟨x0, x1, x2, g0, g1, g2⟩ := N6
      (refine wpAnyE_free (i := 11) (o := ?_) ?_ (by kernel_rfl) (by kernel_rfl) (fun K hK => ?_); rotate_left; (focus ((simp only [List.getElem?_toArray, List.getElem?_cons_succ, List.getElem?_cons_zero]; exact rfl))); go_simp; refine hK.out _ _ ?_; clear hK K; (try simp only [Act.put, List.setIfInBounds_toArray, List.set_cons_zero, List.set_cons_succ]))
      ((refine ePu 12 ?_))
      refine wpAnyE_done (by kernel_rfl) ?_ _
      go_wp2_with fail
      go_meet
      refine ⟨nb, _, _, _, _, _, _, _, rfl, rfl, ((HN.out.set0 _).set1 _).set2 _, ?_, extA⟩
      exact NumV.set (NumV.set (NumV.set ⟨z1, zc, z2, zd, rfl, k1, k2⟩ hzn hnl) hzn hnl) hzn hnl
  case rest =>
    obtain ⟨nb, z0, z1, zn, zc, z2, zm, zd, rfl, rfl, N, HZ, E⟩ := hcut
    have ka := (numOf_len HEA.out).2
    have kb := (numOf_len HEB.out).2
    have hval : valQ (sumN (numOf a) (negN (numOf b))) = fracQ a - fracQ b := (sumN_val ka (show (negN (numOf b)).2.2 ≠ 0 from kb)).1.trans (by rw [negN_val, numOf_val, numOf_val, Rat.sub_eq_add_neg])
    have hden : (sumN (numOf a) (negN (numOf b))).2.2 ≠ 0 := (sumN_val ka (show (negN (numOf b)).2.2 ≠ 0 from kb)).2
    have hlen := sumN_len hxa (show LenN 40 (negN (numOf b)) from hyb)
    have HRR := Lib.hid (HRES.out.2.2 HEA.out HEB.out)
    generalize sumN (numOf a) (negN (numOf b)) = SN at *
    have HW := Lib.hid (written_any SN.1 SN.2.1 SN.2.2 _ _ HZ.out hden (HG.out.ext E) hlen.1 hlen.2)
    have HV := Lib.hid (show numQ SN.1 SN.2.1 SN.2.2 = fracQ a - fracQ b from hval)
    obtain ⟨x0, x1, x2, _, _, _⟩ := N.out
    clear X Y HNA HNB HRES HZ N hval hden hlen ka kb hxa hyb
    go_wp2_with (go_at_call 127; refine HW.out.mono ?_; rintro e w9 ⟨rfl, hE⟩)
    go_ret2
    exact ⟨by rw [HRR.out, HV.out]; rfl, E.trans hE⟩
end Go.Proofs.YtlhpfhnbeagnaaaGreatDoor
namespace Go.Proofs.YtlhpfhnbeagnaaaGreatDoor
open Go.RowKit
set_option maxHeartbeats 16000000 in
set_option maxRecDepth 100000 in
theorem computed2_any (a b : Txt) (w : World) (hG : Glob w) (ha : a.length ≤ 400) (hb : b.length ≤ 400) :
    Calls Tryz.prog 99 #[.int .i64 2, txt a, txt b] w (ResPost (mulS a b) w) := by
  have HG := Lib.hid hG
  have HPA := Lib.hid (fun W (hW : Ext w W) => parsed_any a W (hG.ext hW) ha)
  have HPB := Lib.hid (fun W (hW : Ext w W) => parsed_any b W (hG.ext hW) hb)
  have HRES := Lib.hid (@mul_res a b)
  clear hG
  go_enter Tryz.func99, Tryz.ntmps99
  go_wp2_with fail
  refine (HPA.out _ (Ext.refl _)).mono ?_
  rintro e w1 ⟨v1, rfl, ⟨s1, ta, tn, tc, ba, bn, bc, rfl⟩, hn1, hE⟩
  have HN1 := Lib.hid hn1
  clear hn1 HPA
  by_cases ea : fracE a = 0
  rotate_left
  · have HR := Lib.hid (HRES.out.1 ea)
    have hne : (((fracE a : Nat) : Int) != 0) = true := by rw [bne_iff_ne]; omega
    clear HN1 HPB HRES
    generalize fracE a = n at *
    go_wp2_with fail
    go_ret2
    exact ⟨by rw [HR.out]; rfl, extA⟩
  have HNA := Lib.hid (HN1.out ea)
  rw [ea]
  have HEA := Lib.hid ea
  clear ea HN1
  have EV : Ext w1 (w1.alloc (.cells #[.bool s1, .slice ta tn tc, .slice ba bn bc] 157)) := extA
  have X : Num3 w1.heap.size (w1.alloc (.cells #[.bool s1, .slice ta tn tc, .slice ba bn bc] 157)) (.bool s1) (.slice ta tn tc) (.slice ba bn bc) := ⟨by go_simp, by go_simp, by go_simp, by go_simp, by go_simp, by go_simp⟩
  have E := hE.trans EV
  replace HNA := Lib.hid (HNA.out.ext EV)
  clear EV hE
  go_wp2_with fail
  obtain ⟨xb, hxb⟩ : ∃ xb, xb = w1.heap.size := ⟨_, rfl⟩
  rw [← hxb] at X ⊢
  clear hxb
  generalize (w1.alloc (.cells #[.bool s1, .slice ta tn tc, .slice ba bn bc] 157)) = W1 at X E HNA ⊢
  refine (HPB.out _ E).mono ?_
  rintro e w3 ⟨v2, rfl, ⟨s2, ua, un, uc, va, vn, vc, rfl⟩, hn2, hE⟩
  replace X := X.ext hE
  replace E := E.trans hE
  replace HNA := Lib.hid (HNA.out.ext hE)
  have HN2 := Lib.hid hn2
  clear hn2 HPB hE
  by_cases eb : fracE b = 0
  rotate_left
  · have HR := Lib.hid (HRES.out.2.1 HEA.out eb)
    have hne : (((fracE b : Nat) : Int) != 0) = true := by rw [bne_iff_ne]; omega
    clear HN2 HRES HEA
    generalize fracE b = n at *
    go_wp2_with fail
    go_ret2
    exact ⟨by rw [HR.out]; rfl, extA⟩
  have HNB := Lib.hid (HN2.out eb)
  rw [eb]
  have HEB := Lib.hid eb
  clear eb HN2
  have EV : Ext w3 (w3.alloc (.cells #[.bool s2, .slice ua un uc, .slice va vn vc] 157)) := extA
  have Y : Num3 w3.heap.size (w3.alloc (.cells #[.bool s2, .slice ua un uc, .slice va vn vc] 157)) (.bool s2) (.slice ua un uc) (.slice va vn vc) := ⟨by go_simp, by go_simp, by go_simp, by go_simp, by go_simp, by go_simp⟩
  replace X := X.ext EV
  replace E := E.trans EV
  replace HNA := Lib.hid (HNA.out.ext EV)
  replace HNB := Lib.hid (HNB.out.ext EV)
  clear EV
  go_wp2_with fail
  obtain ⟨yb, hyb⟩ : ∃ yb, yb = w3.heap.size := ⟨_, rfl⟩
  rw [← hyb] at Y ⊢
  clear hyb
  generalize (w3.alloc (.cells #[.bool s2, .slice ua un uc, .slice va vn vc] 157)) = W3 at X Y E HNA HNB ⊢
  have hix := op_index2
  have hfi := op_field
  have hxa := (numOf_len HEA.out).1
  have hyb := (numOf_len HEB.out).1
  go_cut [11, 9] (fun n ev wx => ∃ nb z0 z1 zn zc z2 zm zd, n = .pointer (some ⟨nb, 0, none⟩) ∧ ev = .int .i64 0 ∧ Hid (Num3 nb wx (.bool z0) (.slice z1 zn zc) (.slice z2 zm zd)) ∧ Hid (NumV wx (.agg #[.bool z0, .slice z1 zn zc, .slice z2 zm zd]) (mulN (numOf a) (numOf b))) ∧ Ext w wx)
  case first =>
    have hdr : Ext W3 W3.drew := extA
    replace X := X.ext hdr
    replace Y := Y.ext hdr
    replace E := E.trans hdr
    replace HNA := Lib.hid (HNA.out.ext hdr)
    replace HNB := Lib.hid (HNB.out.ext hdr)
    have hS : W3.drew.cell? ⟨xb, 0, none⟩ = some (.bool s1) ∧ W3.drew.cell? ⟨xb, 1, none⟩ = some (.slice ta tn tc) ∧ W3.drew.cell? ⟨xb, 2, none⟩ = some (.slice ba bn bc) ∧ W3.drew.cell? ⟨yb, 0, none⟩ = some (.bool s2) ∧ W3.drew.cell? ⟨yb, 1, none⟩ = some (.slice ua un uc) ∧ W3.drew.cell? ⟨yb, 2, none⟩ = some (.slice va vn vc) := ⟨X.c0, X.c1, X.c2, Y.c0, Y.c1, Y.c2⟩
    refine wp_region_heldE 11 (fun w' => w'.cell? ⟨xb, 0, none⟩ = some (.bool s1) ∧ w'.cell? ⟨xb, 1, none⟩ = some (.slice ta tn tc) ∧ w'.cell? ⟨xb, 2, none⟩ = some (.slice ba bn bc) ∧ w'.cell? ⟨yb, 0, none⟩ = some (.bool s2) ∧ w'.cell? ⟨yb, 1, none⟩ = some (.slice ua un uc) ∧ w'.cell? ⟨yb, 2, none⟩ = some (.slice va vn vc)) (by kernel_rfl) ?_
    clear hdr X Y
    generalize W3.drew = W4 at E HNA HNB hS ⊢
    ((refine eTk 1 ?_); (refine eTk 4 ?_); (refine eTk 5 ?_))
    refine wpAnyE_two (i := 0) (j := 10) (o := ?_) (p := ?_) ?_ ?_ (by kernel_rfl) (fun K hK => ?_) (fun K hK => ?_)
    rotate_left 2
    · simp only [List.getElem?_toArray, List.getElem?_cons_zero]; exact rfl
    · simp only [List.getElem?_toArray, List.getElem?_cons_succ, List.getElem?_cons_zero]; exact rfl
    · go_simp
      go_at_call 126
      refine (operations_any _).mono ?_
      rintro e w5 ⟨rfl, hE⟩
      go_wp2_with fail
      have hS5 : w5.cell? ⟨xb, 0, none⟩ = some (.bool s1) ∧ w5.cell? ⟨xb, 1, none⟩ = some (.slice ta tn tc) ∧ w5.cell? ⟨xb, 2, none⟩ = some (.slice ba bn bc) ∧ w5.cell? ⟨yb, 0, none⟩ = some (.bool s2) ∧ w5.cell? ⟨yb, 1, none⟩ = some (.slice ua un uc) ∧ w5.cell? ⟨yb, 2, none⟩ = some (.slice va vn vc) := ⟨hE.cell hS.1, hE.cell hS.2.1, hE.cell hS.2.2.1, hE.cell hS.2.2.2.1, hE.cell hS.2.2.2.2.1, hE.cell hS.2.2.2.2.2⟩
      refine hK.out _ _ hS5 (fun hHeld => ?_)
      clear hK K hHeld
      (try simp only [Act.put, List.setIfInBounds_toArray, List.set_cons_zero, List.set_cons_succ])
      replace E := E.trans hE
      replace HNA := Lib.hid (HNA.out.ext hE)
      replace HNB := Lib.hid (HNB.out.ext hE)
      clear hE hS
      ((refine eTk 2 ?_); (refine eTk 3 ?_))
      refine wpAnyE_two (i := 6) (j := 10) (o := ?_) (p := ?_) ?_ ?_ (by kernel_rfl) (fun K hK => ?_) (fun K hK => ?_)
      rotate_left 2
      · simp only [List.getElem?_toArray, List.getElem?_cons_succ, List.getElem?_cons_zero]; exact rfl
      · simp only [List.getElem?_toArray, List.getElem?_cons_succ, List.getElem?_cons_zero]; exact rfl
      · go_simp
        go_at_call 145
        refine (op2_any (numOf a) (numOf b) _ _ _ HNA.out HNB.out hxa hyb).mono ?_; rintro e w6 ⟨z, rfl, hz, hzn, hE⟩; obtain ⟨z1, zc, z2, zd, rfl, k1, k2⟩ := hz
        go_wp2_with fail
        have hS6 : w6.cell? ⟨xb, 0, none⟩ = some (.bool s1) ∧ w6.cell? ⟨xb, 1, none⟩ = some (.slice ta tn tc) ∧ w6.cell? ⟨xb, 2, none⟩ = some (.slice ba bn bc) ∧ w6.cell? ⟨yb, 0, none⟩ = some (.bool s2) ∧ w6.cell? ⟨yb, 1, none⟩ = some (.slice ua un uc) ∧ w6.cell? ⟨yb, 2, none⟩ = some (.slice va vn vc) := ⟨hE.cell hS5.1, hE.cell hS5.2.1, hE.cell hS5.2.2.1, hE.cell hS5.2.2.2.1, hE.cell hS5.2.2.2.2.1, hE.cell hS5.2.2.2.2.2⟩
        refine hK.out _ _ hS6 (fun hHeld => ?_)
        clear hK K hHeld hS5
        (try simp only [Act.put, List.setIfInBounds_toArray, List.set_cons_zero, List.set_cons_succ])
        ((refine ePu 7 ?_); (refine ePu 8 ?_); (refine ePu 9 ?_))
        have EA : Ext w6 (w6.alloc (.cells #[.bool false, .slice none 0 0, .slice none 0 0] 157)) := extA
        have N : Num3 w6.heap.size (w6.alloc (.cells #[.bool false, .slice none 0 0, .slice none 0 0] 157)) (.bool false) (.slice none 0 0) (.slice none 0 0) := ⟨by go_simp, by go_simp, by go_simp, by go_simp, by go_simp, by go_simp⟩
        (refine wpAnyE_one (i := 10) (o := ?_) ?_ (by kernel_rfl) (fun K hK => ?_); rotate_left; (focus ((simp only [List.getElem?_toArray, List.getElem?_cons_succ, List.getElem?_cons_zero]; exact rfl))); go_simp; refine hK.out _ _ ?_ (fun hHeld => ?_); rotate_left; clear hK K; (try simp only [Act.put, List.setIfInBounds_toArray, List.set_cons_zero, List.set_cons_succ]))
        rotate_left
        · exact ⟨EA.cell hS6.1, EA.cell hS6.2.1, EA.cell hS6.2.2.1, EA.cell hS6.2.2.2.1, EA.cell hS6.2.2.2.2.1, EA.cell hS6.2.2.2.2.2⟩
        obtain ⟨nb, hnb⟩ : ∃ nb, nb = w6.heap.size := ⟨_, rfl⟩
        rw [← hnb] at N ⊢
        have hnw : w6.heap.size ≤ nb := by omega
        have hww : w.heap.size ≤ nb := by have := (E.trans hE).size; omega
        have E6 := (E.trans hE).trans EA
        have HEA := Lib.hid EA
        clear EA hS6 hHeld hnb E hE
        generalize (w6.alloc (.cells #[.bool false, .slice none 0 0, .slice none 0 0] 157)) = W7 at N HEA E6 ⊢
        have HN := Lib.hid N
        obtain ⟨x0, x1, x2, g0, g1, g2⟩ := N
        (refine wpAnyE_free (i := 11) (o := ?_) ?_ (by kernel_rfl) (by kernel_rfl) (fun K hK => ?_); rotate_left; (focus ((simp only [List.getElem?_toArray, List.getElem?_cons_succ, List.getElem?_cons_zero]; exact rfl))); go_simp; refine hK.out _ _ ?_; clear hK K; (try simp only [Act.put, List.setIfInBounds_toArray, List.set_cons_zero, List.set_cons_succ]))
        ((refine ePu 12 ?_))
        refine wpAnyE_done (by kernel_rfl) ?_ _
        go_wp2_with fail
        go_meet
        refine ⟨nb, _, _, _, _, _, _, _, rfl, rfl, ((HN.out.set0 _).set1 _).set2 _, ?_, extA⟩
        exact NumV.ext ⟨z1, zc, z2, zd, rfl, k1, k2⟩ (((HEA.out.set hnw _).set hnw _).set hnw _)
      · go_simp
        have EA : Ext w5 (w5.alloc (.cells #[.bool false, .slice none 0 0, .slice none 0 0] 157)) := extA
        have N : Num3 w5.heap.size (w5.alloc (.cells #[.bool false, .slice none 0 0, .slice none 0 0] 157)) (.bool false) (.slice none 0 0) (.slice none 0 0) := ⟨by go_simp, by go_simp, by go_simp, by go_simp, by go_simp, by go_simp⟩
        have hSA : (w5.alloc (.cells #[.bool false, .slice none 0 0, .slice none 0 0] 157)).cell? ⟨xb, 0, none⟩ = some (.bool s1) ∧ (w5.alloc (.cells #[.bool false, .slice none 0 0, .slice none 0 0] 157)).cell? ⟨xb, 1, none⟩ = some (.slice ta tn tc) ∧ (w5.alloc (.cells #[.bool false, .slice none 0 0, .slice none 0 0] 157)).cell? ⟨xb, 2, none⟩ = some (.slice ba bn bc) ∧ (w5.alloc (.cells #[.bool false, .slice none 0 0, .slice none 0 0] 157)).cell? ⟨yb, 0, none⟩ = some (.bool s2) ∧ (w5.alloc (.cells #[.bool false, .slice none 0 0, .slice none 0 0] 157)).cell? ⟨yb, 1, none⟩ = some (.slice ua un uc) ∧ (w5.alloc (.cells #[.bool false, .slice none 0 0, .slice none 0 0] 157)).cell? ⟨yb, 2, none⟩ = some (.slice va vn vc) := ⟨EA.cell hS5.1, EA.cell hS5.2.1, EA.cell hS5.2.2.1, EA.cell hS5.2.2.2.1, EA.cell hS5.2.2.2.2.1, EA.cell hS5.2.2.2.2.2⟩
        refine hK.out _ _ hSA (fun hHeld => ?_)
        clear hK K hHeld hS5
        (try simp only [Act.put, List.setIfInBounds_toArray, List.set_cons_zero, List.set_cons_succ])
        obtain ⟨nb, hnb⟩ : ∃ nb, nb = w5.heap.size := ⟨_, rfl⟩
        rw [← hnb] at N ⊢
        have hww : w.heap.size ≤ nb := by have := E.size; omega
        replace E := E.trans EA
        replace HNA := Lib.hid (HNA.out.ext EA)
        replace HNB := Lib.hid (HNB.out.ext EA)
        clear EA hnb
        generalize (w5.alloc (.cells #[.bool false, .slice none 0 0, .slice none 0 0] 157)) = w5 at N hSA E HNA HNB ⊢
        (refine wpAnyE_one (i := 6) (o := ?_) ?_ (by kernel_rfl) (fun K hK => ?_); rotate_left; (focus ((simp only [List.getElem?_toArray, List.getElem?_cons_succ, List.getElem?_cons_zero]; exact rfl))); go_simp; go_at_call 145; refine (op2_any (numOf a) (numOf b) _ _ _ HNA.out HNB.out hxa hyb).mono ?_; rintro e w6 ⟨z, rfl, hz, hzn, hE⟩; obtain ⟨z1, zc, z2, zd, rfl, k1, k2⟩ := hz; go_wp2_with fail; refine hK.out _ _ ?_ (fun hHeld => ?_); rotate_left; clear hK K; (try simp only [Act.put, List.setIfInBounds_toArray, List.set_cons_zero, List.set_cons_succ]))
        rotate_left
        · exact ⟨hE.cell hSA.1, hE.cell hSA.2.1, hE.cell hSA.2.2.1, hE.cell hSA.2.2.2.1, hE.cell hSA.2.2.2.2.1, hE.cell hSA.2.2.2.2.2⟩
        have N6 := N.ext hE
        have hnl : nb < w5.heap.size := cell_lt N.c0
        have E6 := E.trans hE
        clear hSA N E hE
        ((refine ePu 7 ?_); (refine ePu 8 ?_); (refine ePu 9 ?_))
        clear hHeld
        have HN := Lib.hid N6
        obtain ⟨x0, x1, x2, g0, g1, g2⟩ := N6
        (refine wpAnyE_free (i := 11) (o := ?_) ?_ (by kernel_rfl) (by kernel_rfl) (fun K hK => ?_); rotate_left; (focus ((simp only [List.getElem?_toArray, List.getElem?_cons_succ, List.getElem?_cons_zero]; exact rfl))); go_simp; refine hK.out _ _ ?_; clear hK K; (try simp only [Act.put, List.setIfInBounds_toArray, List.set_cons_zero, List.set_cons_succ]))
        ((refine ePu 12 ?_))
        refine wpAnyE_done (by kernel_rfl) ?_ _
        go_wp2_with fail
        go_meet
        refine ⟨nb, _, _, _, _, _, _, _, rfl, rfl, ((HN.out.set0 _).set1 _).set2 _, ?_, extA⟩
        exact NumV.set (NumV.set (NumV.set ⟨z1, zc, z2, zd, rfl, k1, k2⟩ hzn hnl) hzn hnl) hzn hnl
    · go_simp
      have EA : Ext W4 (W4.alloc (.cells #[.bool false, .slice none 0 0, .slice none 0 0] 157)) := extA
      have N : Num3 W4.heap.size (W4.alloc (.cells #[.bool false, .slice none 0 0, .slice none 0 0] 157)) (.bool false) (.slice none 0 0) (.slice none 0 0) := ⟨by go_simp, by go_simp, by go_simp, by go_simp, by go_simp, by go_simp⟩
      have hSA : (W4.alloc (.cells #[.bool false, .slice none 0 0, .slice none 0 0] 157)).cell? ⟨xb, 0, none⟩ = some (.bool s1) ∧ (W4.alloc (.cells #[.bool false, .slice none 0 0, .slice none 0 0] 157)).cell? ⟨xb, 1, none⟩ = some (.slice ta tn tc) ∧ (W4.alloc (.cells #[.bool false, .slice none 0 0, .slice none 0 0] 157)).cell? ⟨xb, 2, none⟩ = some (.slice ba bn bc) ∧ (W4.alloc (.cells #[.bool false, .slice none 0 0, .slice none 0 0] 157)).cell? ⟨yb, 0, none⟩ = some (.bool s2) ∧ (W4.alloc (.cells #[.bool false, .slice none 0 0, .slice none 0 0] 157)).cell? ⟨yb, 1, none⟩ = some (.slice ua un uc) ∧ (W4.alloc (.cells #[.bool false, .slice none 0 0, .slice none 0 0] 157)).cell? ⟨yb, 2, none⟩ = some (.slice va vn vc) := ⟨EA.cell hS.1, EA.cell hS.2.1, EA.cell hS.2.2.1, EA.cell hS.2.2.2.1, EA.cell hS.2.2.2.2.1, EA.cell hS.2.2.2.2.2⟩
      refine hK.out _ _ hSA (fun hHeld => ?_)
      clear hK K hHeld hS
      (try simp only [Act.put, List.setIfInBounds_toArray, List.set_cons_zero, List.set_cons_succ])
      obtain ⟨nb, hnb⟩ : ∃ nb, nb = W4.heap.size := ⟨_, rfl⟩
      rw [← hnb] at N ⊢
      have hww : w.heap.size ≤ nb := by have := E.size; omega
      replace E := E.trans EA
      replace HNA := Lib.hid (HNA.out.ext EA)
      replace HNB := Lib.hid (HNB.out.ext EA)
      clear EA hnb
      generalize (W4.alloc (.cells #[.bool false, .slice none 0 0, .slice none 0 0] 157)) = W5 at N hSA E HNA HNB ⊢
      (refine wpAnyE_one (i := 0) (o := ?_) ?_ (by kernel_rfl) (fun K hK => ?_); rotate_left; (focus ((simp only [List.getElem?_toArray, List.getElem?_cons_zero]; exact rfl))); go_simp; go_at_call 126; refine (operations_any _).mono ?_; rintro e w5 ⟨rfl, hE⟩; go_wp2_with fail; refine hK.out _ _ ?_ (fun hHeld => ?_); rotate_left; clear hK K; (try simp only [Act.put, List.setIfInBounds_toArray, List.set_cons_zero, List.set_cons_succ]))
      rotate_left
      · exact ⟨hE.cell hSA.1, hE.cell hSA.2.1, hE.cell hSA.2.2.1, hE.cell hSA.2.2.2.1, hE.cell hSA.2.2.2.2.1, hE.cell hSA.2.2.2.2.2⟩
      replace hSA : w5.cell? ⟨xb, 0, none⟩ = some (.bool s1) ∧ w5.cell? ⟨xb, 1, none⟩ = some (.slice ta tn tc) ∧ w5.cell? ⟨xb, 2, none⟩ = some (.slice ba bn bc) ∧ w5.cell? ⟨yb, 0, none⟩ = some (.bool s2) ∧ w5.cell? ⟨yb, 1, none⟩ = some (.slice ua un uc) ∧ w5.cell? ⟨yb, 2, none⟩ = some (.slice va vn vc) := ⟨hE.cell hSA.1, hE.cell hSA.2.1, hE.cell hSA.2.2.1, hE.cell hSA.2.2.2.1, hE.cell hSA.2.2.2.2.1, hE.cell hSA.2.2.2.2.2⟩
      replace N := N.ext hE
      replace E := E.trans hE
      replace HNA := Lib.hid (HNA.out.ext hE)
      replace HNB := Lib.hid (HNB.out.ext hE)
      clear hE hHeld
      ((refine eTk 2 ?_); (refine eTk 3 ?_))
      (refine wpAnyE_one (i := 6) (o := ?_) ?_ (by kernel_rfl) (fun K hK => ?_); rotate_left; (focus ((simp only [List.getElem?_toArray, List.getElem?_cons_succ, List.getElem?_cons_zero]; exact rfl))); go_simp; go_at_call 145; refine (op2_any (numOf a) (numOf b) _ _ _ HNA.out HNB.out hxa hyb).mono ?_; rintro e w6 ⟨z, rfl, hz, hzn, hE⟩; obtain ⟨z1, zc, z2, zd, rfl, k1, k2⟩ := hz; go_wp2_with fail; refine hK.out _ _ ?_ (fun hHeld => ?_); rotate_left; clear hK K; (try simp only [Act.put, List.setIfInBounds_toArray, List.set_cons_zero, List.set_cons_succ]))
      rotate_left
      · exact ⟨hE.cell hSA.1, hE.cell hSA.2.1, hE.cell hSA.2.2.1, hE.cell hSA.2.2.2.1, hE.cell hSA.2.2.2.2.1, hE.cell hSA.2.2.2.2.2⟩
      have N6 := N.ext hE
      have hnl : nb < w5.heap.size := cell_lt N.c0
      have E6 := E.trans hE
      clear hSA N E hE
      ((refine ePu 7 ?_); (refine ePu 8 ?_); (refine ePu 9 ?_))
      clear hHeld
      have HN := Lib.hid N6
      obtain ⟨x0, x1, x2, g0, g1, g2⟩ := N6
      (refine wpAnyE_free (i := 11) (o := ?_) ?_ (by kernel_rfl) (by kernel_rfl) (fun K hK => ?_); rotate_left; (focus ((simp only [List.getElem?_toArray, List.getElem?_cons_succ, List.getElem?_cons_zero]; exact rfl))); go_simp; refine hK.out _ _ ?_; clear hK K; (try simp only [Act.put, List.setIfInBounds_toArray, List.set_cons_zero, List.set_cons_succ]))
      ((refine ePu 12 ?_))
      refine wpAnyE_done (by kernel_rfl) ?_ _
      go_wp2_with fail
      go_meet
      refine ⟨nb, _, _, _, _, _, _, _, rfl, rfl, ((HN.out.set0 _).set1 _).set2 _, ?_, extA⟩
      exact NumV.set (NumV.set (NumV.set ⟨z1, zc, z2, zd, rfl, k1, k2⟩ hzn hnl) hzn hnl) hzn hnl
  case rest =>
    obtain ⟨nb, z0, z1, zn, zc, z2, zm, zd, rfl, rfl, N, HZ, E⟩ := hcut
    have ka := (numOf_len HEA.out).2
    have kb := (numOf_len HEB.out).2
    have hval : valQ (mulN (numOf a) (numOf b)) = fracQ a * fracQ b := (mulN_val _ _).trans (by rw [numOf_val, numOf_val])
    have hden : (mulN (numOf a) (numOf b)).2.2 ≠ 0 := Nat.mul_ne_zero ka kb
    have hlen := mulN_len hxa hyb
    have HRR := Lib.hid (HRES.out.2.2 HEA.out HEB.out)
    generalize mulN (numOf a) (numOf b) = SN at *
    have HW := Lib.hid (written_any SN.1 SN.2.1 SN.2.2 _ _ HZ.out hden (HG.out.ext E) hlen.1 hlen.2)
    have HV := Lib.hid (show numQ SN.1 SN.2.1 SN.2.2 = fracQ a * fracQ b from hval)
    obtain ⟨x0, x1, x2, _, _, _⟩ := N.out
    clear X Y HNA HNB HRES HZ N hval hden hlen ka kb hxa hyb
    go_wp2_with (go_at_call 127; refine HW.out.mono ?_; rintro e w9 ⟨rfl, hE⟩)
    go_ret2
    exact ⟨by rw [HRR.out, HV.out]; rfl, E.trans hE⟩
end Go.Proofs.YtlhpfhnbeagnaaaGreatDoor
namespace Go.Proofs.YtlhpfhnbeagnaaaGreatDoor
open Go.RowKit
end Go.Proofs.YtlhpfhnbeagnaaaGreatDoor
namespace Go.Proofs.YtlhpfhnbeagnaaaGreatDoor
open Go.RowKit
open Go.Lib (decDigits itoa)
def IntP (z : Int) (n : Nat) (w : World) (e : Ending) (w' : World) : Prop := e = .returned (.tuple #[.int .i64 z, .int .i64 (n : Nat)]) ∧ Ext w w'
set_option maxHeartbeats 4000000 in
set_option maxRecDepth 100000 in
theorem check_any (a : Txt) (w : World) (hG : Glob w) (ha : a.length ≤ 400) :
    Calls Tryz.prog 96 #[txt a] w fun e w' => e = .returned (.int .i64 (fracE a : Nat)) ∧ Ext w w' := by
  have HPA := Lib.hid (parsed_any a w hG ha)
  clear hG
  go_enter Tryz.func96, Tryz.ntmps96
  go_wp2_with fail
  refine HPA.out.mono ?_
  rintro e w1 ⟨v1, rfl, ⟨s1, ta, tn, tc, ba, bn, bc, rfl⟩, hn1, hE⟩
  clear hn1 HPA
  go_wp2_with fail
  go_ret
  exact ⟨rfl, extA⟩
set_option maxHeartbeats 2000000 in
theorem add_any (a b : Txt) (w : World) (hG : Glob w) (ha : a.length ≤ 400) (hb : b.length ≤ 400) : Calls Tryz.prog 125 #[txt a, txt b] w (ResP (addS a b) w) := by
  have H := Lib.hid (computed0_any a b w hG ha hb)
  clear hG
  go_enter Tryz.func125, Tryz.ntmps125
  go_wp2_with (go_at_call 99; refine H.out.mono ?_; rintro e w1 ⟨rfl, hE⟩)
  go_ret2
  exact ⟨rfl, hE⟩
set_option maxHeartbeats 2000000 in
theorem sub_any (a b : Txt) (w : World) (hG : Glob w) (ha : a.length ≤ 400) (hb : b.length ≤ 400) : Calls Tryz.prog 67 #[txt a, txt b] w (ResP (subS a b) w) := by
  have H := Lib.hid (computed1_any a b w hG ha hb)
  clear hG
  go_enter Tryz.func67, Tryz.ntmps67
  go_wp2_with (go_at_call 99; refine H.out.mono ?_; rintro e w1 ⟨rfl, hE⟩)
  go_ret2
  exact ⟨rfl, hE⟩
set_option maxHeartbeats 2000000 in
theorem mul_any (a b : Txt) (w : World) (hG : Glob w) (ha : a.length ≤ 400) (hb : b.length ≤ 400) : Calls Tryz.prog 124 #[txt a, txt b] w (ResP (mulS a b) w) := by
  have H := Lib.hid (computed2_any a b w hG ha hb)
  clear hG
  go_enter Tryz.func124, Tryz.ntmps124
  go_wp2_with (go_at_call 99; refine H.out.mono ?_; rintro e w1 ⟨rfl, hE⟩)
  go_ret2
  exact ⟨rfl, hE⟩
end Go.Proofs.YtlhpfhnbeagnaaaGreatDoor
namespace Go.Proofs.YtlhpfhnbeagnaaaGreatDoor
open Go.RowKit
open Go.Lib (decDigits itoa)
end Go.Proofs.YtlhpfhnbeagnaaaGreatDoor
namespace Go.Proofs.YtlhpfhnbeagnaaaGreatDoor
open Go.RowKit
open Go.Lib (decDigits itoa)
end Go.Proofs.YtlhpfhnbeagnaaaGreatDoor
namespace Go.Proofs.YtlhpfhnbeagnaaaGreatDoor
open Go.RowKit
open Go.Lib (decDigits itoa)
end Go.Proofs.YtlhpfhnbeagnaaaGreatDoor
namespace Go.Proofs.YtlhpfhnbeagnaaaGreatDoor
open Go.Lib (decDigits itoa)
structure Good (K : Nat) (t : Txt) (q : Rat) : Prop where
  ok : fracE t = 0
  val : fracQ t = q
  fit : FitB K q
theorem Good.short {a : Txt} (h : fracE a = 0) (hl : a.length ≤ 10) : Good 10 a (fracQ a) := ⟨h, rfl, short_fit h hl⟩
theorem Good.of {K : Nat} {q : Rat} (h : FitB K q) (hK : K ≤ 60) : resQ q = (fracT q, 0) ∧ Good K (fracT q) q := by
  obtain ⟨h1, h2⟩ := made_fit (h.fit hK)
  obtain ⟨h3, h4⟩ := frac_of (h.fit hK)
  exact ⟨by unfold resQ; rw [h1, h2], ⟨h3, h4, h⟩⟩
theorem Good.both {K L : Nat} {s t : Txt} {q r : Rat} (h : Good K s q) (k : Good L t r) : bothE s t = 0 := by
  unfold bothE; rw [if_pos h.ok]; exact k.ok
theorem Good.add {K L : Nat} {s t : Txt} {q r : Rat} (h : Good K s q) (k : Good L t r) (hK : K + L + 1 ≤ 60) : addS s t = (fracT (q + r), 0) ∧ Good (K + L + 1) (fracT (q + r)) (q + r) := by
  obtain ⟨h1, h2⟩ := Good.of (h.fit.add k.fit) hK
  refine ⟨?_, h2⟩
  unfold addS ifOk
  rw [if_pos (h.both k), h.val, k.val, h1]
theorem Good.sub {K L : Nat} {s t : Txt} {q r : Rat} (h : Good K s q) (k : Good L t r) (hK : K + L + 1 ≤ 60) : subS s t = (fracT (q - r), 0) ∧ Good (K + L + 1) (fracT (q - r)) (q - r) := by
  obtain ⟨h1, h2⟩ := Good.of (h.fit.sub k.fit) hK
  refine ⟨?_, h2⟩
  unfold subS ifOk
  rw [if_pos (h.both k), h.val, k.val, h1]
theorem Good.mul {K L : Nat} {s t : Txt} {q r : Rat} (h : Good K s q) (k : Good L t r) (hK : K + L ≤ 60) : mulS s t = (fracT (q * r), 0) ∧ Good (K + L) (fracT (q * r)) (q * r) := by
  obtain ⟨h1, h2⟩ := Good.of (h.fit.mul k.fit) hK
  refine ⟨?_, h2⟩
  unfold mulS ifOk
  rw [if_pos (h.both k), h.val, k.val, h1]
theorem int_good {n : Int} {K : Nat} (hK : 0 < K) (h60 : K ≤ 60) (h : n.natAbs < 10 ^ K) : Good K (itoa n) (n : Rat) := by
  rw [← fracT_int]
  exact (Good.of (fit_int hK h) h60).2
theorem zero_good : Good 1 [48] 0 := by
  have h := int_good (n := 0) (K := 1) (by omega) (by omega) (by decide)
  rwa [show itoa 0 = [48] from (Go.Lib.itoa_nonneg 0).trans (digits_small (by omega)), Rat.intCast_zero] at h
theorem one_good : Good 1 [49] 1 := by
  have h := int_good (n := 1) (K := 1) (by omega) (by omega) (by decide)
  rwa [show itoa 1 = [49] from (Go.Lib.itoa_nonneg 1).trans (digits_small (by omega)), Rat.intCast_one] at h
theorem Good.inj {K L : Nat} {s t : Txt} {q : Rat} (h : Good K s q) (k : Good L t q) : s = t := frac_inj h.ok k.ok (h.val.trans k.val.symm)
theorem Good.zero {K : Nat} {s : Txt} {q : Rat} (h : Good K s q) : s = [48] ↔ q = 0 := by
  constructor
  · rintro rfl; rw [← h.val]; exact zero_good.val
  · rintro rfl; exact h.inj zero_good
theorem Good.div {K L : Nat} {s t : Txt} {q r : Rat} (h : Good K s q) (k : Good L t r) (hK : K + (L + 1) ≤ 60) (hr : r ≠ 0) : divS s t = (fracT (q / r), 0) ∧ Good (K + (L + 1)) (fracT (q / r)) (q / r) := by
  obtain ⟨h1, h2⟩ := Good.of (h.fit.div k.fit) hK
  refine ⟨?_, h2⟩
  unfold divS ifOk
  rw [if_pos (h.both k), if_neg (fun e => hr (k.zero.1 e)), h.val, k.val, h1]
theorem Good.neg {K : Nat} {s : Txt} {q : Rat} (h : Good K s q) (hK : K ≤ 60) : negR s = (fracT (-q), 0) ∧ Good K (fracT (-q)) (-q) := by
  refine ⟨?_, (Good.of h.fit.neg hK).2⟩
  unfold negR ifOk
  rw [if_pos h.ok, h.val]
theorem Good.sign {K : Nat} {s : Txt} {q : Rat} (h : Good K s q) : signS s = (q.num.sign, 0) := by
  unfold signS ifOk
  rw [if_pos h.ok, h.val]
end Go.Proofs.YtlhpfhnbeagnaaaGreatDoor
namespace Go.Proofs.YtlhpfhnbeagnaaaGreatDoor
open Go.RowKit
open Go.Lib (decDigits itoa)
theorem Good.any {a : Txt} (h : fracE a = 0) : Good 60 a (fracQ a) := ⟨h, rfl, frac_fit h⟩
end Go.Proofs.YtlhpfhnbeagnaaaGreatDoor
namespace Go.Proofs.YtlhpfhnbeagnaaaGreatDoor
open Go.RowKit
open Go.Lib (decDigits itoa)
theorem cmp_num2 {a b : Txt} (ea : fracE a = 0) (eb : fracE b = 0) : cmpS a b = (signN (sumN (numOf a) (negN (numOf b))), 0) := by
  obtain ⟨h1, h2⟩ := sumN_val (x := numOf a) (y := negN (numOf b)) (numOf_len ea).2 (numOf_len eb).2
  have h3 : valQ (sumN (numOf a) (negN (numOf b))) = fracQ a - fracQ b := by rw [h1, negN_val, numOf_val, numOf_val, Rat.sub_eq_add_neg]
  unfold cmpS ifOk
  rw [if_pos (bothE_zero ea eb), ← h3]
  unfold valQ signN
  rw [num_sign h2]
set_option maxHeartbeats 16000000 in
set_option maxRecDepth 100000 in
theorem compareF_any (a b : Txt) (w : World) (hG : Glob w) (ha : a.length ≤ 400) (hb : b.length ≤ 400) :
    Calls Tryz.prog 97 #[txt a, txt b] w (IntP (cmpS a b).1 (cmpS a b).2 w) := by
  have HPA := Lib.hid (fun W (hW : Ext w W) => parsed_any a W (hG.ext hW) ha)
  have HPB := Lib.hid (fun W (hW : Ext w W) => parsed_any b W (hG.ext hW) hb)
  clear hG
  unfold IntP
  go_enter Tryz.func97, Tryz.ntmps97
  go_wp2_with fail
  refine (HPA.out _ (Ext.refl _)).mono ?_
  rintro e w1 ⟨v1, rfl, ⟨s1, ta, tn, tc, ba, bn, bc, rfl⟩, hn1, hE⟩
  have HN1 := Lib.hid hn1
  clear hn1 HPA
  by_cases ea : fracE a = 0
  rotate_left
  · have HR : Hid (cmpS a b = (0, fracE a)) := by show _ = _; unfold cmpS ifOk; rw [bothE_left ea, if_neg ea]
    have hne : (((fracE a : Nat) : Int) != 0) = true := by rw [bne_iff_ne]; omega
    clear HN1 HPB
    generalize fracE a = n at *
    go_wp2_with fail
    go_ret2
    exact ⟨by rw [HR.out]; rfl, extA⟩
  have HNA := Lib.hid (HN1.out ea)
  rw [ea]
  have HEA := Lib.hid ea
  clear ea HN1
  have hne0 : (((0 : Nat) : Int) != 0) = false := rfl
  have EV : Ext w1 (w1.alloc (.cells #[.bool s1, .slice ta tn tc, .slice ba bn bc] 157)) := extA
  have X : Num3 w1.heap.size (w1.alloc (.cells #[.bool s1, .slice ta tn tc, .slice ba bn bc] 157)) (.bool s1) (.slice ta tn tc) (.slice ba bn bc) := ⟨by go_simp, by go_simp, by go_simp, by go_simp, by go_simp, by go_simp⟩
  have E := hE.trans EV
  replace HNA := Lib.hid (HNA.out.ext EV)
  clear EV hE
  go_wp2_with fail
  obtain ⟨xb, hxb⟩ : ∃ xb, xb = w1.heap.size := ⟨_, rfl⟩
  rw [← hxb] at X ⊢
  clear hxb
  generalize (w1.alloc (.cells #[.bool s1, .slice ta tn tc, .slice ba bn bc] 157)) = W1 at X E HNA ⊢
  refine (HPB.out _ E).mono ?_
  rintro e w3 ⟨v2, rfl, ⟨s2, ua, un, uc, va, vn, vc, rfl⟩, hn2, hE⟩
  replace X := X.ext hE
  replace E := E.trans hE
  replace HNA := Lib.hid (HNA.out.ext hE)
  have HN2 := Lib.hid hn2
  clear hn2 HPB hE
  by_cases eb : fracE b = 0
  rotate_left
  · have HR : Hid (cmpS a b = (0, fracE b)) := by show _ = _; unfold cmpS ifOk; rw [bothE_right HEA.out, if_neg eb]
    have hne : (((fracE b : Nat) : Int) != 0) = true := by rw [bne_iff_ne]; omega
    clear HN2 HEA
    generalize fracE b = n at *
    go_wp2_with fail
    go_ret2
    exact ⟨by rw [HR.out]; rfl, extA⟩
  have HNB := Lib.hid (HN2.out eb)
  have HR := Lib.hid (cmp_num2 HEA.out eb)
  have hxa := (numOf_len HEA.out).1
  have hyb := (numOf_len eb).1
  rw [eb]
  clear eb HN2 HEA
  have EV : Ext w3 (w3.alloc (.cells #[.bool s2, .slice ua un uc, .slice va vn vc] 157)) := extA
  have Y : Num3 w3.heap.size (w3.alloc (.cells #[.bool s2, .slice ua un uc, .slice va vn vc] 157)) (.bool s2) (.slice ua un uc) (.slice va vn vc) := ⟨by go_simp, by go_simp, by go_simp, by go_simp, by go_simp, by go_simp⟩
  replace X := X.ext EV
  replace E := E.trans EV
  replace HNA := Lib.hid (HNA.out.ext EV)
  replace HNB := Lib.hid (HNB.out.ext EV)
  clear EV
  generalize numOf a = NA at *
  generalize numOf b = NB at *
  go_wp2_with fail
  obtain ⟨yb, hyb2⟩ : ∃ yb, yb = w3.heap.size := ⟨_, rfl⟩
  rw [← hyb2] at Y ⊢
  clear hyb2
  generalize (w3.alloc (.cells #[.bool s2, .slice ua un uc, .slice va vn vc] 157)) = W3 at X Y E HNA HNB ⊢
  have hdr : Ext W3 W3.drew := extA
  replace X := X.ext hdr
  replace Y := Y.ext hdr
  replace E := E.trans hdr
  replace HNA := Lib.hid (HNA.out.ext hdr)
  replace HNB := Lib.hid (HNB.out.ext hdr)
  have hS : W3.drew.cell? ⟨xb, 0, none⟩ = some (.bool s1) ∧ W3.drew.cell? ⟨xb, 1, none⟩ = some (.slice ta tn tc) ∧ W3.drew.cell? ⟨xb, 2, none⟩ = some (.slice ba bn bc) ∧ W3.drew.cell? ⟨yb, 0, none⟩ = some (.bool s2) ∧ W3.drew.cell? ⟨yb, 1, none⟩ = some (.slice ua un uc) ∧ W3.drew.cell? ⟨yb, 2, none⟩ = some (.slice va vn vc) := ⟨X.c0, X.c1, X.c2, Y.c0, Y.c1, Y.c2⟩
  refine wp_region_heldE 99 (fun w' => w'.cell? ⟨xb, 0, none⟩ = some (.bool s1) ∧ w'.cell? ⟨xb, 1, none⟩ = some (.slice ta tn tc) ∧ w'.cell? ⟨xb, 2, none⟩ = some (.slice ba bn bc) ∧ w'.cell? ⟨yb, 0, none⟩ = some (.bool s2) ∧ w'.cell? ⟨yb, 1, none⟩ = some (.slice ua un uc) ∧ w'.cell? ⟨yb, 2, none⟩ = some (.slice va vn vc)) (by kernel_rfl) ?_
  clear hdr X Y
  generalize W3.drew = W4 at E HNA HNB hS ⊢
  ((refine eTk 0 ?_); (refine eTk 1 ?_))
  (refine wpAnyE_one (i := 2) (o := ?_) ?_ (by kernel_rfl) (fun K hK => ?_); rotate_left; (focus ((simp only [List.getElem?_toArray, List.getElem?_cons_succ, List.getElem?_cons_zero]; exact rfl))); go_simp; go_at_call 123; refine (opposite_any NB _ _ HNB.out).mono ?_; rintro e w5 ⟨v5, rfl, h5, hE⟩; go_wp2_with fail; refine hK.out _ _ ?_ (fun hHeld => ?_); rotate_left; clear hK K; (try simp only [Act.put, List.setIfInBounds_toArray, List.set_cons_zero, List.set_cons_succ]))
  rotate_left
  · exact ⟨hE.cell hS.1, hE.cell hS.2.1, hE.cell hS.2.2.1, hE.cell hS.2.2.2.1, hE.cell hS.2.2.2.2.1, hE.cell hS.2.2.2.2.2⟩
  have hS5 : w5.cell? ⟨xb, 0, none⟩ = some (.bool s1) ∧ w5.cell? ⟨xb, 1, none⟩ = some (.slice ta tn tc) ∧ w5.cell? ⟨xb, 2, none⟩ = some (.slice ba bn bc) ∧ w5.cell? ⟨yb, 0, none⟩ = some (.bool s2) ∧ w5.cell? ⟨yb, 1, none⟩ = some (.slice ua un uc) ∧ w5.cell? ⟨yb, 2, none⟩ = some (.slice va vn vc) := ⟨hE.cell hS.1, hE.cell hS.2.1, hE.cell hS.2.2.1, hE.cell hS.2.2.2.1, hE.cell hS.2.2.2.2.1, hE.cell hS.2.2.2.2.2⟩
  replace E := E.trans hE
  replace HNA := Lib.hid (HNA.out.ext hE)
  have HV5 := Lib.hid h5
  clear hS hE h5 hHeld HNB
  (refine wpAnyE_one (i := 3) (o := ?_) ?_ (by kernel_rfl) (fun K hK => ?_); rotate_left; (focus ((simp only [List.getElem?_toArray, List.getElem?_cons_succ, List.getElem?_cons_zero]; exact rfl))); go_simp; go_at_call 122; refine (sum_any NA (negN NB) _ v5 w5 HNA.out HV5.out hxa hyb).mono ?_; rintro e w6 ⟨v6, rfl, h6, _, hE⟩; go_wp2_with fail; refine hK.out _ _ ?_ (fun hHeld => ?_); rotate_left; clear hK K; (try simp only [Act.put, List.setIfInBounds_toArray, List.set_cons_zero, List.set_cons_succ]))
  rotate_left
  · exact ⟨hE.cell hS5.1, hE.cell hS5.2.1, hE.cell hS5.2.2.1, hE.cell hS5.2.2.2.1, hE.cell hS5.2.2.2.2.1, hE.cell hS5.2.2.2.2.2⟩
  have hS6 : w6.cell? ⟨xb, 0, none⟩ = some (.bool s1) ∧ w6.cell? ⟨xb, 1, none⟩ = some (.slice ta tn tc) ∧ w6.cell? ⟨xb, 2, none⟩ = some (.slice ba bn bc) ∧ w6.cell? ⟨yb, 0, none⟩ = some (.bool s2) ∧ w6.cell? ⟨yb, 1, none⟩ = some (.slice ua un uc) ∧ w6.cell? ⟨yb, 2, none⟩ = some (.slice va vn vc) := ⟨hE.cell hS5.1, hE.cell hS5.2.1, hE.cell hS5.2.2.1, hE.cell hS5.2.2.2.1, hE.cell hS5.2.2.2.2.1, hE.cell hS5.2.2.2.2.2⟩
  replace E := E.trans hE
  have HV6 := Lib.hid h6
  clear hS5 hE h6 hHeld HNA HV5
  generalize sumN NA (negN NB) = SN at *
  (refine wpAnyE_one (i := 4) (o := ?_) ?_ (by kernel_rfl) (fun K hK => ?_); rotate_left; (focus ((simp only [List.getElem?_toArray, List.getElem?_cons_succ, List.getElem?_cons_zero]; exact rfl))); go_simp; go_at_call 121; refine (sign_any SN v6 w6 HV6.out).mono ?_; rintro e w7 ⟨rfl, hE⟩; go_wp2_with fail; refine hK.out _ _ ?_ (fun hHeld => ?_); rotate_left; clear hK K; (try simp only [Act.put, List.setIfInBounds_toArray, List.set_cons_zero, List.set_cons_succ]))
  rotate_left
  · exact ⟨hE.cell hS6.1, hE.cell hS6.2.1, hE.cell hS6.2.2.1, hE.cell hS6.2.2.2.1, hE.cell hS6.2.2.2.2.1, hE.cell hS6.2.2.2.2.2⟩
  have hS7 : w7.cell? ⟨xb, 0, none⟩ = some (.bool s1) ∧ w7.cell? ⟨xb, 1, none⟩ = some (.slice ta tn tc) ∧ w7.cell? ⟨xb, 2, none⟩ = some (.slice ba bn bc) ∧ w7.cell? ⟨yb, 0, none⟩ = some (.bool s2) ∧ w7.cell? ⟨yb, 1, none⟩ = some (.slice ua un uc) ∧ w7.cell? ⟨yb, 2, none⟩ = some (.slice va vn vc) := ⟨hE.cell hS6.1, hE.cell hS6.2.1, hE.cell hS6.2.2.1, hE.cell hS6.2.2.2.1, hE.cell hS6.2.2.2.2.1, hE.cell hS6.2.2.2.2.2⟩
  replace E := E.trans hE
  clear hS6 hE hHeld
  ((refine ePu 5 ?_); (refine ePu 6 ?_))
  clear hS7
  refine wpAnyE_done (by kernel_rfl) ?_ _
  go_wp2_with fail
  go_ret2
  exact ⟨by rw [HR.out]; rfl, E⟩
end Go.Proofs.YtlhpfhnbeagnaaaGreatDoor
namespace Go.Proofs.YtlhpfhnbeagnaaaGreatDoor
open Go.RowKit
open Go.Lib (decDigits itoa)
def CellsT (w : World) (a : Option Addr) (l : List Txt) : Prop :=
  ∀ i, i < l.length → ∃ b off, a = some ⟨b, off, none⟩ ∧ w.cell? ⟨b, off + i, none⟩ = some (txt (l.getD i []))
theorem CellsT.ext {w w' : World} {a : Option Addr} {l : List Txt} (h : CellsT w a l) (he : Ext w w') : CellsT w' a l := fun i hi => by
  obtain ⟨b, off, h1, h2⟩ := h i hi
  exact ⟨b, off, h1, he.cell h2⟩
theorem getD_txt {l : List Txt} {k : Nat} (h : k < l.length) : l.getD k [] = l[k] := by simp [List.getD, h]
theorem drop_txt {l : List Txt} {k : Nat} (h : k < l.length) : l.drop k = l.getD k [] :: l.drop (k + 1) := by
  rw [List.drop_eq_getElem_cons h, getD_txt h]
theorem mem_txt {l : List Txt} {k : Nat} (h : k < l.length) : l.getD k [] ∈ l := by
  rw [getD_txt h]; exact List.getElem_mem h
end Go.Proofs.YtlhpfhnbeagnaaaGreatDoor
namespace Go.Proofs.YtlhpfhnbeagnaaaGreatDoor
open Go.RowKit
open Go.Lib (decDigits itoa)
def LenR (k : Nat) (x : Num) : Prop := (toB 1000000 x.2.1).length ≤ k ∧ (toB 1000000 x.2.2).length ≤ k
theorem LenR.mono {k l : Nat} {x : Num} (h : LenR k x) (hk : k ≤ l) : LenR l x := ⟨Nat.le_trans h.1 hk, Nat.le_trans h.2 hk⟩
end Go.Proofs.YtlhpfhnbeagnaaaGreatDoor
namespace Go.Proofs.YtlhpfhnbeagnaaaGreatDoor
open Go.RowKit
open Go.Lib (decDigits itoa)
end Go.Proofs.YtlhpfhnbeagnaaaGreatDoor
namespace Go.Proofs.YtlhpfhnbeagnaaaGreatDoor
def lkQ (p : Nat → Rat) : Nat → (Nat → Rat) → Rat
  | 0, f => f 0
  | n + 1, f => lkQ p n (fun s => f s + (f (s + 2 ^ n) - f s) * p n)
def setP (p : Nat → Rat) (i : Nat) (x : Rat) : Nat → Rat := fun j => if j = i then x else p j
theorem setP_same (p : Nat → Rat) (i : Nat) (x : Rat) : setP p i x i = x := if_pos rfl
theorem setP_other (p : Nat → Rat) {i j : Nat} (x : Rat) (h : j ≠ i) : setP p i x j = p j := if_neg h
def DivD (D M : Nat) (q : Rat) : Prop := 0 < D ∧ ∃ a : Nat, a ≤ M ∧ q = (a : Rat) / (D : Rat)
theorem DivD.mul {D M E N : Nat} {q r : Rat} (h : DivD D M q) (k : DivD E N r) : DivD (D * E) (M * N) (q * r) := by
  obtain ⟨hD, a, ha, rfl⟩ := h
  obtain ⟨hE, b, hb, rfl⟩ := k
  refine ⟨Nat.mul_pos hD hE, a * b, Nat.mul_le_mul ha hb, ?_⟩
  rw [Rat.natCast_mul, Rat.natCast_mul]
  have h1 : (D : Rat) ≠ 0 := by intro e; have : D = 0 := by exact_mod_cast e
                                omega
  have h2 : (E : Rat) ≠ 0 := by intro e; have : E = 0 := by exact_mod_cast e
                                omega
  grind
theorem DivD.add {D M N : Nat} {q r : Rat} (h : DivD D M q) (k : DivD D N r) : DivD D (M + N) (q + r) := by
  obtain ⟨hD, a, ha, rfl⟩ := h
  obtain ⟨_, b, hb, rfl⟩ := k
  refine ⟨hD, a + b, by omega, ?_⟩
  rw [Rat.natCast_add]
  grind
theorem DivD.between {D E : Nat} {q r w : Rat} (h : DivD D D q) (k : DivD D D r) (hw : DivD E E w) : DivD (D * E) (D * E) (q + (r - q) * w) := by
  obtain ⟨hD, a, ha, rfl⟩ := h
  obtain ⟨_, b, hb, rfl⟩ := k
  obtain ⟨hE, c, hc, rfl⟩ := hw
  have h1 : (D : Rat) ≠ 0 := by intro e; have : D = 0 := by exact_mod_cast e
                                omega
  have h2 : (E : Rat) ≠ 0 := by intro e; have : E = 0 := by exact_mod_cast e
                                omega
  refine ⟨Nat.mul_pos hD hE, a * (E - c) + b * c, ?_, ?_⟩
  · have g1 : a * (E - c) ≤ D * (E - c) := Nat.mul_le_mul_right _ ha
    have g2 : b * c ≤ D * c := Nat.mul_le_mul_right _ hb
    have g3 : D * (E - c) + D * c = D * E := by rw [← Nat.mul_add]; congr 1; omega
    omega
  · have g : ((E - c : Nat) : Rat) + (c : Rat) = (E : Rat) := by rw [← Rat.natCast_add]; congr 1; omega
    rw [Rat.natCast_add, Rat.natCast_mul, Rat.natCast_mul, Rat.natCast_mul]
    grind
theorem DivD.bd {D : Nat} {q : Rat} (h : DivD D D q) : 0 ≤ q ∧ q ≤ 1 := by
  obtain ⟨hD, a, ha, rfl⟩ := h
  have h1 : (0 : Rat) < (D : Rat) := by exact_mod_cast hD
  have h2 : (a : Rat) ≤ (D : Rat) := by exact_mod_cast ha
  have h3 : (0 : Rat) ≤ (a : Rat) := by exact_mod_cast Nat.zero_le a
  constructor
  · rw [Rat.div_def]; exact Rat.mul_nonneg h3 (Rat.le_of_lt (Rat.inv_pos.2 h1))
  · have h4 : (a : Rat) / (D : Rat) * (D : Rat) = a := Rat.div_mul_cancel (by grind)
    refine Classical.byContradiction fun h5 => ?_
    have h6 : (1 : Rat) < (a : Rat) / (D : Rat) := Rat.not_le.1 h5
    have h7 : (1 : Rat) * (D : Rat) < (a : Rat) / (D : Rat) * (D : Rat) := Rat.mul_lt_mul_of_pos_right h6 h1
    rw [h4] at h7
    grind
theorem zero_div {D : Nat} (h : 0 < D) : DivD D D 0 := ⟨h, 0, Nat.zero_le _, by grind⟩
theorem one_div {D : Nat} (h : 0 < D) : DivD D D 1 := ⟨h, D, Nat.le_refl _, by
  have h1 : (D : Rat) ≠ 0 := by intro e; have : D = 0 := by exact_mod_cast e
                                omega
  grind⟩
end Go.Proofs.YtlhpfhnbeagnaaaGreatDoor
namespace Go.Proofs.YtlhpfhnbeagnaaaGreatDoor
open Go.Lib (decDigits itoa)
theorem ratSigned (n : Int) (d : Nat) : (n : Rat) / (d : Rat) = mkRat n d := by rw [Rat.mkRat_eq_div]
theorem DivD.fit {D M K : Nat} {q : Rat} (h : DivD D M q) (hM : M < 10 ^ K) (hD : D < 10 ^ K) : FitB K q := by
  obtain ⟨h0, a, ha, rfl⟩ := h
  rw [show ((a : Nat) : Rat) = ((a : Int) : Rat) from rfl, ratSigned]
  exact fit_mk (by omega) (by omega) hD
theorem DivD.fit_sub {D K : Nat} {q r : Rat} (h : DivD D D q) (k : DivD D D r) (hD : D < 10 ^ K) : FitB K (q - r) := by
  obtain ⟨h0, a, ha, rfl⟩ := h
  obtain ⟨_, b, hb, rfl⟩ := k
  have e : (a : Rat) / (D : Rat) - (b : Rat) / (D : Rat) = (((a : Int) - (b : Int) : Int) : Rat) / (D : Rat) := by
    rw [Rat.intCast_sub, show ((a : Int) : Rat) = (a : Rat) from rfl, show ((b : Int) : Rat) = (b : Rat) from rfl]
    grind
  rw [e, ratSigned]
  exact fit_mk (by omega) (by omega) hD
theorem DivD.fit_subMul {D E K : Nat} {q r w : Rat} (h : DivD D D q) (k : DivD D D r) (hw : DivD E E w) (hD : D * E < 10 ^ K) : FitB K ((q - r) * w) := by
  obtain ⟨h0, a, ha, rfl⟩ := h
  obtain ⟨_, b, hb, rfl⟩ := k
  obtain ⟨h1, c, hc, rfl⟩ := hw
  have e : ((a : Rat) / (D : Rat) - (b : Rat) / (D : Rat)) * ((c : Rat) / (E : Rat)) = ((((a : Int) - (b : Int)) * (c : Int) : Int) : Rat) / ((D * E : Nat) : Rat) := by
    rw [Rat.intCast_mul, Rat.intCast_sub, show ((a : Int) : Rat) = (a : Rat) from rfl, show ((b : Int) : Rat) = (b : Rat) from rfl, show ((c : Int) : Rat) = (c : Rat) from rfl, Rat.natCast_mul]
    have g1 : (D : Rat) ≠ 0 := by intro e; have : D = 0 := by exact_mod_cast e
                                  omega
    have g2 : (E : Rat) ≠ 0 := by intro e; have : E = 0 := by exact_mod_cast e
                                  omega
    grind
  rw [e, ratSigned]
  refine fit_mk (Nat.ne_of_gt (Nat.mul_pos h0 h1)) ?_ hD
  rw [Int.natAbs_mul]
  have g : ((a : Int) - (b : Int)).natAbs * (c : Int).natAbs ≤ D * E := Nat.mul_le_mul (by omega) (by omega)
  omega
theorem add_fit {K L M : Nat} {s t : Txt} {q r : Rat} (h : Good K s q) (k : Good L t r) (hf : FitB M (q + r)) (hM : M ≤ 60) : addS s t = (fracT (q + r), 0) ∧ Good M (fracT (q + r)) (q + r) := by
  obtain ⟨h1, h2⟩ := Good.of hf hM
  refine ⟨?_, h2⟩
  unfold addS ifOk
  rw [if_pos (h.both k), h.val, k.val, h1]
theorem sub_fit {K L M : Nat} {s t : Txt} {q r : Rat} (h : Good K s q) (k : Good L t r) (hf : FitB M (q - r)) (hM : M ≤ 60) : subS s t = (fracT (q - r), 0) ∧ Good M (fracT (q - r)) (q - r) := by
  obtain ⟨h1, h2⟩ := Good.of hf hM
  refine ⟨?_, h2⟩
  unfold subS ifOk
  rw [if_pos (h.both k), h.val, k.val, h1]
theorem mul_fit {K L M : Nat} {s t : Txt} {q r : Rat} (h : Good K s q) (k : Good L t r) (hf : FitB M (q * r)) (hM : M ≤ 60) : mulS s t = (fracT (q * r), 0) ∧ Good M (fracT (q * r)) (q * r) := by
  obtain ⟨h1, h2⟩ := Good.of hf hM
  refine ⟨?_, h2⟩
  unfold mulS ifOk
  rw [if_pos (h.both k), h.val, k.val, h1]
def betQ (a b w : Rat) : Rat := a + (b - a) * w
structure BetS (s t w : Txt) (a b x : Rat) : Prop where
  same : s = t → s = fracT (betQ a b x)
  sub : subS t s = (fracT (b - a), 0)
  subG : Good 52 (fracT (b - a)) (b - a)
  mul : mulS (fracT (b - a)) w = (fracT ((b - a) * x), 0)
  mulG : Good 52 (fracT ((b - a) * x)) ((b - a) * x)
  add : addS s (fracT ((b - a) * x)) = (fracT (betQ a b x), 0)
  addG : Good 52 (fracT (betQ a b x)) (betQ a b x)
theorem bet_good {D E : Nat} {s t w : Txt} {a b x : Rat} (hs : Good 52 s a) (ht : Good 52 t b) (hw : Good 52 w x) (ha : DivD D D a) (hb : DivD D D b) (hx : DivD E E x) (hDE : D * E < 10 ^ 52) : BetS s t w a b x := by
  have hE : 0 < E := hx.1
  have hD : D < 10 ^ 52 := by
    have : D * 1 ≤ D * E := Nat.mul_le_mul_left _ hE
    omega
  obtain ⟨s1, s2⟩ := sub_fit ht hs (hb.fit_sub ha hD) (by omega)
  obtain ⟨m1, m2⟩ := mul_fit s2 hw (hb.fit_subMul ha hx hDE) (by omega)
  obtain ⟨a1, a2⟩ := add_fit hs m2 ((ha.between hb hx).fit hDE hDE) (by omega)
  refine ⟨fun e => ?_, s1, s2, m1, m2, a1, a2⟩
  subst e
  have e2 : a = b := hs.val.symm.trans ht.val
  subst e2
  have e3 : betQ a a x = a := by unfold betQ; grind
  rw [e3]
  exact hs.inj (Good.of hs.fit (by omega)).2
structure ProbT (x : Txt) : Prop where
  ok : fracE x = 0
  lo : 0 ≤ fracQ x
  hi : fracQ x ≤ 1
def numE : List Txt → Nat
  | [] => 0
  | x :: l => if fracE x ≠ 0 then fracE x else if fracQ x < 0 ∨ 1 < fracQ x then 2 else numE l
theorem numE_ok : ∀ {l : List Txt}, numE l = 0 → ∀ x ∈ l, ProbT x := by
  intro l
  induction l with
  | nil => intro _ x hx; cases hx
  | cons y l ih =>
    intro h x hx
    unfold numE at h
    split at h
    · rename_i h1; exact absurd h h1
    · rename_i h1
      split at h
      · cases h
      · rename_i h2
        rcases List.mem_cons.1 hx with rfl | hx
        · exact ⟨by omega, Rat.not_lt.1 fun g => h2 (Or.inl g), Rat.not_lt.1 fun g => h2 (Or.inr g)⟩
        · exact ih h x hx
def chanceE (t : Tr) (p : List Txt) : Nat := if treeE t ≠ 0 then treeE t else if (p.length : Int) ≠ t.ev then 8 else numE p
theorem short_fit5 {a : Txt} (h : fracE a = 0) (hl : a.length ≤ 5) : FitB 5 (fracQ a) := by
  obtain ⟨h1, _, h3, _, _, _, h7⟩ := frac_parts h
  obtain ⟨k1, k2⟩ := frac_num h
  have hlt : (topS a).length ≤ 5 ∧ (lowS a).length ≤ 5 := by
    by_cases hs : 47 ∈ a
    · have e := congrArg List.length (split_some hs)
      rw [List.length_append, List.length_cons] at e
      omega
    · obtain ⟨a1, a2⟩ := split_none hs
      rw [a1, a2]
      exact ⟨hl, by simp⟩
  have hb : (bareS (topS a)).length ≤ (topS a).length := by
    unfold bareS
    split
    · rw [List.length_tail]; omega
    · exact Nat.le_refl _
  unfold FitB
  rw [k1, k2, intV_abs]
  exact ⟨Nat.lt_of_lt_of_le (decV_lt h1.1.1) (Nat.pow_le_pow_right (by omega) (by omega)),
    Nat.lt_of_lt_of_le (decV_lt h3.1) (Nat.pow_le_pow_right (by omega) (by omega))⟩
theorem prob_div {x : Txt} (h : ProbT x) (hl : x.length ≤ 5) : DivD (fracQ x).den (fracQ x).den (fracQ x) ∧ (fracQ x).den < 10 ^ 5 := by
  have hf := short_fit5 h.ok hl
  refine ⟨⟨(fracQ x).den_pos, (fracQ x).num.toNat, ?_, ?_⟩, hf.2⟩
  · have h0 := Rat.num_nonneg.2 h.lo
    have h1 : (fracQ x).num ≤ (fracQ x).den := by
      have h2 := h.hi
      rw [Rat.le_iff] at h2
      simpa using h2
    omega
  · have h0 := Rat.num_nonneg.2 h.lo
    have e : (((fracQ x).num.toNat : Nat) : Rat) = ((fracQ x).num : Rat) := by
      rw [show (((fracQ x).num.toNat : Nat) : Rat) = (((fracQ x).num.toNat : Int) : Rat) from rfl, Int.toNat_of_nonneg h0]
    rw [e]
    rw [ratSigned, Rat.mkRat_self]
def pQ (p : List Txt) (i : Nat) : Rat := fracQ (p.getD i [])
def topQ (t : Tr) (s : Nat) : Rat := if topB t s = true then 1 else 0
structure ProbL (n : Nat) (p : List Txt) : Prop where
  len : p.length = n
  few : n ≤ 5
  ok : ∀ x ∈ p, ProbT x
  short : ∀ x ∈ p, x.length ≤ 5
def denP (p : List Txt) (i : Nat) : Nat := (pQ p i).den
theorem ProbL.at {n : Nat} {p : List Txt} (h : ProbL n p) {i : Nat} (hi : i < n) : ProbT (p.getD i []) ∧ (p.getD i []).length ≤ 5 ∧ Good 5 (p.getD i []) (pQ p i) ∧ DivD (denP p i) (denP p i) (pQ p i) ∧ denP p i < 10 ^ 5 := by
  have hm : p.getD i [] ∈ p := by
    have := h.len
    rw [List.getD_eq_getElem?_getD, List.getElem?_eq_getElem (by omega)]; exact List.getElem_mem _
  have h1 := h.ok _ hm
  have h2 := h.short _ hm
  obtain ⟨h3, h4⟩ := prob_div h1 h2
  exact ⟨h1, h2, ⟨h1.ok, rfl, short_fit5 h1.ok h2⟩, h3, h4⟩
def prodE (E : Nat → Nat) : Nat → Nat
  | 0 => 1
  | k + 1 => prodE E k * E k
theorem prodE_le {E : Nat → Nat} : ∀ n, (∀ i, i < n → E i < 10 ^ 5) → prodE E n ≤ 10 ^ (5 * n) := by
  intro n
  induction n with
  | zero => intro _; exact Nat.le_refl _
  | succ n ih =>
    intro h
    unfold prodE
    rw [Nat.mul_add, Nat.pow_add, Nat.mul_one]
    exact Nat.mul_le_mul (ih fun i hi => h i (by omega)) (Nat.le_of_lt (h n (by omega)))
theorem pow5_le {a : Nat} (h : a ≤ 5) : (10 : Nat) ^ (5 * a) ≤ 10 ^ 25 := Nat.pow_le_pow_right (by decide) (by omega)
theorem ProbL.prod {n : Nat} {p : List Txt} (h : ProbL n p) {k : Nat} (hk : k ≤ n) : prodE (denP p) k ≤ 10 ^ 25 := by
  have h5 := h.few
  exact Nat.le_trans (prodE_le k fun i hi => (h.at (by omega)).2.2.2.2) (pow5_le (by omega))
theorem lk_div {E : Nat → Nat} {p : Nat → Rat} : ∀ (n : Nat) (D : Nat) (f : Nat → Rat), (∀ i, i < n → DivD (E i) (E i) (p i)) → (∀ s, s < 2 ^ n → DivD D D (f s)) → DivD (D * prodE E n) (D * prodE E n) (lkQ p n f) := by
  intro n
  induction n with
  | zero =>
    intro D f _ h
    have h2 := h 0 (by decide)
    show DivD (D * 1) (D * 1) (f 0)
    rw [Nat.mul_one]
    exact h2
  | succ n ih =>
    intro D f hp h
    unfold lkQ
    have h2 : 2 ^ (n + 1) = 2 ^ n + 2 ^ n := by rw [Nat.pow_succ]; omega
    have hE := hp n (by omega)
    have h3 := ih (D * E n) (fun s => f s + (f (s + 2 ^ n) - f s) * p n) (fun i hi => hp i (by omega)) (fun s hs => (h s (by omega)).between (h (s + 2 ^ n) (by omega)) hE)
    have e : D * E n * prodE E n = D * prodE E (n + 1) := by
      show D * E n * prodE E n = D * (prodE E n * E n)
      rw [Nat.mul_assoc, Nat.mul_comm (E n)]
    rw [e] at h3
    exact h3
theorem top_div (t : Tr) (s : Nat) : DivD 1 1 (topQ t s) := by
  unfold topQ
  split
  · exact one_div (by decide)
  · exact zero_div (by decide)
def likQ (t : Tr) (p : Nat → Rat) : Rat := lkQ p t.ev.toNat (topQ t)
def likT (t : Tr) (p : List Txt) : Txt := fracT (likQ t (pQ p))
theorem setP_div {n : Nat} {p : List Txt} (h : ProbL n p) (i : Nat) {x : Rat} (hx : DivD 1 1 x) : ∀ j, j < n → DivD ((fun j => if j = i then 1 else denP p j) j) ((fun j => if j = i then 1 else denP p j) j) (setP (pQ p) i x j) := by
  intro j hj
  by_cases e : j = i
  · subst e; dsimp only; rw [if_pos rfl, setP_same]; exact hx
  · dsimp only; rw [if_neg e, setP_other _ _ e]; exact (h.at hj).2.2.2.1
theorem with_good {n : Nat} {t : Tr} {p : List Txt} (h : ProbL n p) (ht : t.ev.toNat = n) (i : Nat) {x : Rat} (hx : DivD 1 1 x) :
    DivD (prodE (fun j => if j = i then 1 else denP p j) n) (prodE (fun j => if j = i then 1 else denP p j) n) (likQ t (setP (pQ p) i x)) ∧ prodE (fun j => if j = i then 1 else denP p j) n ≤ 10 ^ 25 ∧ Good 26 (fracT (likQ t (setP (pQ p) i x))) (likQ t (setP (pQ p) i x)) := by
  have h1 := lk_div (E := fun j => if j = i then 1 else denP p j) (p := setP (pQ p) i x) n 1 (topQ t) (setP_div h i hx) (fun s _ => top_div t s)
  rw [Nat.one_mul] at h1
  have h5 := h.few
  have hp : prodE (fun j => if j = i then 1 else denP p j) n ≤ 10 ^ 25 := Nat.le_trans (prodE_le n fun j hj => by
    split
    · decide
    · exact (h.at hj).2.2.2.2) (pow5_le h5)
  have hb : prodE (fun j => if j = i then 1 else denP p j) n < 10 ^ 26 := Nat.lt_of_le_of_lt hp (by decide)
  have hl : likQ t (setP (pQ p) i x) = lkQ (setP (pQ p) i x) n (topQ t) := by unfold likQ; rw [ht]
  rw [← hl] at h1
  exact ⟨h1, hp, (Good.of (h1.fit hb hb) (by omega)).2⟩
theorem pQ_set {p : List Txt} {i : Nat} (hi : i < p.length) (x : Txt) : pQ (p.set i x) = setP (pQ p) i (fracQ x) := by
  funext j
  unfold pQ setP
  by_cases e : j = i
  · subst e
    rw [if_pos rfl, List.getD_eq_getElem?_getD, List.getElem?_set_self hi]; rfl
  · rw [if_neg e, List.getD_eq_getElem?_getD, List.getElem?_set_ne (Ne.symm e)]
    show fracQ _ = fracQ _
    rw [List.getD_eq_getElem?_getD]
theorem ProbL.set {n : Nat} {p : List Txt} (h : ProbL n p) (i : Nat) {x : Txt} (hx : ProbT x) (hs : x.length ≤ 5) : ProbL n (p.set i x) := by
  refine ⟨by rw [List.length_set]; exact h.len, h.few, fun y hy => ?_, fun y hy => ?_⟩
  · rcases List.mem_or_eq_of_mem_set hy with hy | rfl
    · exact h.ok y hy
    · exact hx
  · rcases List.mem_or_eq_of_mem_set hy with hy | rfl
    · exact h.short y hy
    · exact hs
theorem prob_zero : ProbT [48] := ⟨by decide, by decide +kernel, by decide +kernel⟩
theorem prob_one : ProbT [49] := ⟨by decide, by decide +kernel, by decide +kernel⟩
theorem fracQ_zero : fracQ [48] = 0 := zero_good.val
theorem fracQ_one : fracQ [49] = 1 := one_good.val
def impT (t : Tr) (p : List Txt) (i : Nat) : Txt := fracT (likQ t (setP (pQ p) i 1) - likQ t (setP (pQ p) i 0))
theorem imp_sub {n : Nat} {t : Tr} {p : List Txt} (h : ProbL n p) (ht : t.ev.toNat = n) (i : Nat) : subS (fracT (likQ t (setP (pQ p) i 1))) (fracT (likQ t (setP (pQ p) i 0))) = (impT t p i, 0) ∧ Good 26 (impT t p i) (likQ t (setP (pQ p) i 1) - likQ t (setP (pQ p) i 0)) := by
  obtain ⟨d1, b1, g1⟩ := with_good h ht i (x := 1) (one_div (by decide))
  obtain ⟨d0, _, g0⟩ := with_good h ht i (x := 0) (zero_div (by decide))
  exact sub_fit g1 g0 (d1.fit_sub d0 (Nat.lt_of_le_of_lt b1 (by decide))) (by omega)
structure SplitS (t : Tr) (p : List Txt) (i : Nat) (x : Txt) : Prop where
  mul1 : mulS x (fracT (likQ t (setP (pQ p) i 1))) = (fracT (pQ p i * likQ t (setP (pQ p) i 1)), 0)
  good1 : Good 52 (fracT (pQ p i * likQ t (setP (pQ p) i 1))) (pQ p i * likQ t (setP (pQ p) i 1))
  sub : subS [49] x = (fracT (1 - pQ p i), 0)
  goodS : Good 52 (fracT (1 - pQ p i)) (1 - pQ p i)
  mul0 : mulS (fracT (1 - pQ p i)) (fracT (likQ t (setP (pQ p) i 0))) = (fracT ((1 - pQ p i) * likQ t (setP (pQ p) i 0)), 0)
  good0 : Good 52 (fracT ((1 - pQ p i) * likQ t (setP (pQ p) i 0))) ((1 - pQ p i) * likQ t (setP (pQ p) i 0))
  add : addS (fracT (pQ p i * likQ t (setP (pQ p) i 1))) (fracT ((1 - pQ p i) * likQ t (setP (pQ p) i 0))) = (likT t p, 0)
end Go.Proofs.YtlhpfhnbeagnaaaGreatDoor
namespace Go.Proofs.YtlhpfhnbeagnaaaGreatDoor
open Go.Lib (decDigits itoa)
end Go.Proofs.YtlhpfhnbeagnaaaGreatDoor
