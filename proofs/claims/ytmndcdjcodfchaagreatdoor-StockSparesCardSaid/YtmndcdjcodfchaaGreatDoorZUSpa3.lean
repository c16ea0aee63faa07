/- Steps of the proof: ULSpa. No conditions. -/
import Derived.Test.YtmndcdjcodfchaaGreatDoorZUB1
import Derived.Test.YtmndcdjcodfchaaGreatDoorZUB2
import Derived.Test.YtmndcdjcodfchaaGreatDoorZUB3
import Derived.Test.YtmndcdjcodfchaaGreatDoorZUB4
import Derived.Test.YtmndcdjcodfchaaGreatDoorZUB5
import Derived.Test.YtmndcdjcodfchaaGreatDoorZUB6
import Derived.Test.YtmndcdjcodfchaaGreatDoorZUB7
import Derived.Test.YtmndcdjcodfchaaGreatDoorZUB8
import Derived.Test.YtmndcdjcodfchaaGreatDoorZUSpa1
import Derived.Test.YtmndcdjcodfchaaGreatDoorZUSpa2
namespace Go.Proofs.YtmndcdjcodfchaaGreatDoor
open Go.RowKit
set_option maxHeartbeats 32000000 in
set_option maxRecDepth 100000 in
theorem lawSpares_any {pks : List Pk} {need : List Int} {pa : Option Addr} {pc : Nat} {na : Option Addr} {nc : Nat} {w : World} (ht : TaskG w pks need pa pc na nc) (z : Int) (hz0 : 0 ≤ z) (hz1 : z ≤ 255) (hGl : Glob w) :
    Calls Tryz.prog 8 #[taskV pks need pa pc na nc, .int .u8 z] w fun e w' => e = .returned (.bool true) ∧ Ext w w' := by
  obtain ⟨f, hf⟩ : ∃ f : Nat → Value, ∀ i, i < pks.length → ∃ b off, pa = some ⟨b, off, none⟩ ∧ w.cell? ⟨b, off + i * 3, none⟩ = some (f i) ∧ SliceI w (f i) (pks.getD i pk0).parts ∧ w.cell? ⟨b, off + i * 3 + 1, none⟩ = some (.int .i64 (pks.getD i pk0).price) ∧ w.cell? ⟨b, off + i * 3 + 2, none⟩ = some (.int .i64 (pks.getD i pk0).most) := by
    have key : ∀ i, i < pks.length → ∃ v : Value, ∃ b off, pa = some ⟨b, off, none⟩ ∧ w.cell? ⟨b, off + i * 3, none⟩ = some v ∧ SliceI w v (pks.getD i pk0).parts ∧ w.cell? ⟨b, off + i * 3 + 1, none⟩ = some (.int .i64 (pks.getD i pk0).price) ∧ w.cell? ⟨b, off + i * 3 + 2, none⟩ = some (.int .i64 (pks.getD i pk0).most) := fun i hi => by
      obtain ⟨b, off, v, h⟩ := ht.pk i hi
      exact ⟨v, b, off, h⟩
    exact Go.Deep.choose_lt (α := Value) key
  have HRI := Lib.hid (fun W (hW : Ext w W) => right_any (ht.ext hW))
  have HAW := Lib.hid (fun W (hW : Ext w W) => awake_any W (hGl.ext hW))
  have HOR := Lib.hid (fun W (hW : Ext w W) => Order_any (ht.ext hW))
  have HDE := Lib.hid (fun W (hW : Ext w W) => Dear_any (ht.ext hW))
  have HCP : Hid (∀ W, Ext w W → 0 < pks.length → pks.length ≤ 100 → Calls Tryz.prog 35 #[.slice pa pks.length pc] W fun e w' => CopyP pks f pks.length W e w') := fun W hW h0 hl => copyP_any h0 hl (fun i hi => by
    obtain ⟨b, off, e, h1, h2, h3, h4⟩ := hf i hi
    exact ⟨b, off, e, hW.cell h1, h2.ext hW, hW.cell h3, hW.cell h4⟩)
  have HLP : Hid (∀ W g cap i, i < pks.length → pks.length ≤ 100 → pks.length ≤ cap → cap ≤ maxLen → RowC W g (flatG f pks pks.length) → Calls Tryz.prog 34 #[.slice (some ⟨g, 0, none⟩) pks.length cap, .int .i64 (i : Int), .int .i64 ((i : Int) + 1)] W fun e w' => LessP ((flatG f pks pks.length).take (i * 3) ++ (flatG f pks pks.length).drop ((i + 1) * 3)) g pks.length cap W e w') := fun W g cap i hi hl hc hm hR =>
    lessP_any hi hl hc hm hR (fun t ht2 => by
      obtain ⟨_, _, _, _, h, _⟩ := hf t ht2
      exact slice_one h)
  have HTL : Hid (∀ W g cap i, Ext w W → i < pks.length → pks.length ≤ cap → cap ≤ maxLen → RowC W g ((flatG f pks pks.length).take (i * 3) ++ (flatG f pks pks.length).drop ((i + 1) * 3)) → TaskG W (pks.eraseIdx i) need (some ⟨g, 0, none⟩) cap na nc) := fun W g cap i hW hi hc hm hR =>
    less_task rfl hi hc hm hR (fun t ht2 => by
      obtain ⟨_, _, _, _, h, _⟩ := hf t ht2
      exact h.ext hW) (ht.nd.ext hW) ht.n1 ht.n2
  unfold CopyP at HCP
  unfold LessP at HLP
  have HT := Lib.hid ht
  unfold RightP at HRI
  unfold OrdP at HOR
  unfold SliceE at HDE
  unfold taskV at HRI HOR HDE ⊢
  obtain ⟨N, hN⟩ : ∃ N, N = pks.length := ⟨_, rfl⟩
  obtain ⟨K, hK⟩ : ∃ K, K = need.length := ⟨_, rfl⟩
  rw [← hN, ← hK] at HRI HOR HDE
  rw [← hN] at hf HCP HLP HTL
  rw [← hN, ← hK]
  have HN := Lib.hid hN
  have HK := Lib.hid hK
  have HFF := Lib.hid hf
  have HSP := Lib.hid (fun (h : Searched pks need) x hx => spareF_of (N := N) (K := K) h hN (x := x) hx)
  have HDL : Hid ((dearL pks need).length ≤ N) := by show _ ≤ _; rw [hN]; exact dearL_len
  have HOE := Lib.hid (fun h : Searched pks need => orderE_or h)
  have HFW : Hid (∀ (h : Searched pks need) need', need'.length = need.length → (∀ x ∈ need', 0 ≤ x ∧ x ≤ 20) → (∀ k, k < need.length → need'.getD k 0 ≤ need.getD k 0) → orderE pks need = 0 → orderE pks need' = 0 ∧ orderP pks need' ≤ orderP pks need) := fun h need' a b c d => spare_fewer h a b c d
  obtain ⟨c, hc⟩ : ∃ c, checkS pks need = c := ⟨_, rfl⟩
  rw [hc] at HDE
  have HC0 : Hid (Searched pks need → c = 0) := fun h => by rw [← hc]; exact of_right h.r
  generalize orderL pks need = ol at HOR
  generalize orderP pks need = op at HOR HSP HFW
  generalize orderE pks need = oe at HOR HSP HOE HFW
  generalize dearL pks need = dl at HDE HSP HDL
  clear ht hGl hN hK hf hc
  have E0 : Ext w (w.alloc (.cells #[.slice pa N pc, .slice na K nc] 25)) := (Ext.refl _).alloc _
  have y1 : (w.alloc (.cells #[.slice pa N pc, .slice na K nc] 25)).cell? ⟨w.heap.size, 0, none⟩ = some (.slice pa N pc) := by go_simp
  have y2 : (w.alloc (.cells #[.slice pa N pc, .slice na K nc] 25)).cell? ⟨w.heap.size, 1, none⟩ = some (.slice na K nc) := by go_simp
  go_enter Tryz.func8, Tryz.ntmps8
  go_wp2_with fail
  refine (HRI.out _ E0).mono ?_
  rintro e w1 ⟨rb, rfl, hrb, hE⟩
  have HRB := Lib.hid hrb
  have E1 := E0.trans hE
  replace y1 := hE.cell y1
  replace y2 := hE.cell y2
  have zz := cell_lt y1
  dsimp only at zz
  clear hE E0 HRI hrb
  cases rb
  case false =>
    go_wp2_with fail
    refine (HAW.out _ E1).mono ?_
    rintro e w2 ⟨rfl, hE⟩
    go_wp2
    go_ret
    exact ⟨rfl, E1.trans hE⟩
  have HSE := Lib.hid (HRB.out rfl)
  obtain rfl : c = 0 := HC0.out HSE.out
  have HK1 : Hid (0 < K ∧ K ≤ 16 ∧ N ≤ 5) := ⟨by rw [HK.out]; exact HSE.out.r.k0, by rw [HK.out]; exact HSE.out.r.k1, by rw [HN.out]; exact HSE.out.len⟩
  have HCN := Lib.hid (fun W (hW : Ext w W) => CloneNd_any (nc := nc) HK.out HK1.out.1 (by have := HK1.out.2.1; omega) (HT.out.nd.ext hW))
  have HNB : Hid (∀ i, i < K → 0 ≤ need.getD i 0 ∧ need.getD i 0 ≤ 20) := fun i hi => HSE.out.nd _ (getD_mem (by rw [← HK.out]; exact hi))
  have HNO := Lib.hid (spare_none HSE.out)
  rw [← HK.out] at HNO
  clear HRB HC0
  go_wp2_with fail
  refine (HOR.out _ E1).mono ?_
  rintro e w2 ⟨la, lc, rfl, _, hE⟩
  have E2 := E1.trans hE
  replace y1 := hE.cell y1
  replace y2 := hE.cell y2
  replace zz := cell_lt y1
  dsimp only at zz
  clear hE E1
  go_wp2_with fail
  refine (HDE.out _ E2).mono ?_
  rintro e w3 ⟨da, dc, rfl, hd, _, _, hE⟩
  have HD := Lib.hid hd
  have E3 := E2.trans hE
  replace y1 := hE.cell y1
  replace y2 := hE.cell y2
  replace zz := cell_lt y1
  dsimp only at zz
  clear hE E2 hd HDE
  rcases HOE.out HSE.out with rfl | rfl
  · obtain ⟨k1, k2, k3⟩ := HK1.out
    have hdl : dl.length ≤ 5 := Nat.le_trans HDL.out k3
    by_cases hd0 : dl.length = 0
    rotate_left
    · obtain ⟨D, hD⟩ : ∃ D, D = dl.length := ⟨_, rfl⟩
      rw [← hD] at hd0 hdl ⊢
      have k4 : (0 : Int) < (D : Int) := by omega
      have k5 : ((D : Int) == 0) = false := by simp; omega
      have hq0 : 0 ≤ z.tmod (D : Int) := Int.tmod_nonneg _ hz0
      have hq1 : z.tmod (D : Int) < (D : Int) := Int.tmod_lt_of_pos _ k4
      obtain ⟨q, hq⟩ : ∃ q : Nat, z.tmod (D : Int) = (q : Int) := ⟨(z.tmod (D : Int)).toNat, by omega⟩
      have hqD : q < D := by omega
      obtain ⟨db, doff, rfl, cd⟩ := HD.out q (by rw [← hD]; exact hqD)
      obtain ⟨i, hi, hSF⟩ := HSP.out HSE.out (dl.getD q 0) (getD_mem (by rw [← hD]; exact hqD))
      rw [hi] at cd
      have hiN := hSF.lt
      have HSF := Lib.hid hSF.less
      clear hSF hi HSP HD hq0 hq1 hD
      have zd := cell_lt cd
      dsimp only at zd
      have k6 : ¬ (i : Int) < 0 := by omega
      have k7 : ¬ (N : Int) ≤ (i : Int) := by omega
      go_wp2
      have k8 : decide ((i : Int) < 0) = false := by simp
      have k9 : decide (N ≤ i) = false := by simp; omega
      simp only [k8, k9, Bool.or_false, Bool.or_self]
      clear k8 k9
      have q9 : IntKind.i64.wrap ((i : Int) + 1) = (i : Int) + 1 := IntWalk.i64_in _ (by omega)
      refine wp_key (LessX w ((flatG f pks N).take (i * 3) ++ (flatG f pks N).drop ((i + 1) * 3)) pa na N K pc nc i) ?tail ?reg
      case reg =>
        intro hQ
        refine wp_region_heldE 99 (fun w' => w'.cell? ⟨w.heap.size, 0, none⟩ = some (.slice pa N pc) ∧ w'.cell? ⟨w.heap.size, 1, none⟩ = some (.slice na K nc)) (by kernel_rfl) ?_
        have ED : Ext w3 w3.drew := (Ext.refl _).drew
        have hS := And.intro (ED.cell y1) (ED.cell y2)
        have E4 := E3.trans ED
        clear y1 y2 E3 ED zz zd cd
        generalize w3.drew = w4 at hS E4 ⊢
        have s1 := hS.1
        have s2 := hS.2
        have zz := cell_lt s1
        dsimp only at zz
        ((refine eTk 0 ?_); (refine eTk 1 ?_); (refine eTk 3 ?_); (refine eTk 4 ?_); (refine eTk 5 ?_); (refine eTk 7 ?_); (refine eTk 8 ?_))
        clear hS
        refine wpAnyE_two (i := 2) (j := 10) (o := ?_) (p := ?_) (by (simp only [List.getElem?_toArray, List.getElem?_cons_succ, List.getElem?_cons_zero]; exact rfl)) (by (simp only [List.getElem?_toArray, List.getElem?_cons_succ, List.getElem?_cons_zero]; exact rfl)) (by kernel_rfl) (fun K hK => ?_) (fun K hK => ?_)
        · go_simp
          go_at_call 35
          refine (HCP.out _ E4 (by omega) (by omega)).mono ?_
          rintro e w5 ⟨g, cap, rfl, hgw, hcap, hcm, hRC, hE⟩
          go_wp2_with fail
          refine hK.out _ _ ⟨hE.cell s1, hE.cell s2⟩ (fun hHeld => ?_)
          clear hK K
          (try simp only [Act.put, List.setIfInBounds_toArray, List.set_cons_zero, List.set_cons_succ])
          have HRS := Lib.hid hRC
          have HCC := Lib.hid (And.intro hcap hcm)
          replace E4 := E4.trans hE
          replace s1 := hE.cell s1
          replace s2 := hE.cell s2
          have hwg : w.heap.size < g := by omega
          clear hcap hcm hRC HCP
          clear zz hE hgw
          have hwn : w.heap.size ≠ g := by omega
          have hgs : g < w5.heap.size := cell_lt (HRS.out 0 _ (flatG_get f pks N 0 (by omega)).1).1
          refine wpAnyE_two (i := 6) (j := 10) (o := ?_) (p := ?_) (by (simp only [List.getElem?_toArray, List.getElem?_cons_succ, List.getElem?_cons_zero]; exact rfl)) (by (simp only [List.getElem?_toArray, List.getElem?_cons_succ, List.getElem?_cons_zero]; exact rfl)) (by kernel_rfl) (fun K hK => ?_) (fun K hK => ?_)
          · go_simp
            go_at_call 34
            refine (HLP.out _ g cap i hiN (by omega) HCC.out.1 HCC.out.2 HRS.out).mono ?_
            rintro e w6 ⟨rfl, hRC, hB, hsc, hsf⟩
            go_wp2_with fail
            refine hK.out _ _ ⟨(hsc ⟨w.heap.size, 0, none⟩ hwn).trans s1, (hsc ⟨w.heap.size, 1, none⟩ hwn).trans s2⟩ (fun hHeld => ?_)
            clear hK K
            (try simp only [Act.put, List.setIfInBounds_toArray, List.set_cons_zero, List.set_cons_succ])
            replace HRS := Lib.hid hRC
            replace E4 : Ext w w6 := Below.trans E4 (hB.mono (Nat.le_of_lt hwg))
            replace s1 := (hsc ⟨w.heap.size, 0, none⟩ hwn).trans s1
            replace s2 := (hsc ⟨w.heap.size, 1, none⟩ hwn).trans s2
            have hgs6 : g < w6.heap.size := Nat.lt_of_lt_of_le hgs hB.size
            have hw6 := E4.size
            clear hB hsc hsf HLP
            ((refine ePu 9 ?_))
            clear hHeld
            (refine wpAnyE_one (i := 10) (o := ?_) ?_ (by kernel_rfl) (fun K hK => ?_); rotate_left; (focus ((simp only [List.getElem?_toArray, List.getElem?_cons_succ, List.getElem?_cons_zero]; exact rfl))); go_simp; refine hK.out _ _ ?_ (fun hHeld => ?_); rotate_left; clear hK K; (try simp only [Act.put, List.setIfInBounds_toArray, List.set_cons_zero, List.set_cons_succ]))
            rotate_left
            · exact ⟨((Ext.refl w6).alloc _).cell s1, ((Ext.refl w6).alloc _).cell s2⟩
            have EA : Ext w6 (w6.alloc (.cells #[.slice none 0 0, .slice none 0 0] 25)) := (Ext.refl _).alloc _
            have NT := NewT.made w6 25
            obtain ⟨lb, hlb⟩ : ∃ lb, lb = w6.heap.size := ⟨_, rfl⟩
            rw [← hlb] at NT ⊢
            have hlw : w.heap.size < lb := by omega
            have hgl : g ≠ lb := by omega
            replace E4 := E4.trans EA
            replace s1 := EA.cell s1
            replace s2 := EA.cell s2
            replace HRS := Lib.hid (HRS.out.ext EA)
            clear EA hlb hgs6 hw6 hgs
            generalize w6.alloc (.cells #[.slice none 0 0, .slice none 0 0] 25) = w7 at NT E4 s1 s2 HRS hHeld ⊢
            have hln : w.heap.size ≠ lb := by omega
            have m0 := NT.c0
            have m1 := NT.c1
            have k0 := NT.f0
            have k1 := NT.f1
            (refine wpAnyE_one (i := 11) (o := ?_) ?_ (by kernel_rfl) (fun K hK => ?_); rotate_left; (focus ((simp only [List.getElem?_toArray, List.getElem?_cons_succ, List.getElem?_cons_zero]; exact rfl))); go_simp; refine hK.out _ _ ?_ (fun hHeld => ?_); rotate_left; clear hK K; (try simp only [Act.put, List.setIfInBounds_toArray, List.set_cons_zero, List.set_cons_succ]))
            rotate_left
            · exact ⟨by rw [World.cell?_setCell_other _ _ _ _ (fun e => by cases e), World.cell?_setCell_other _ _ _ _ (fun e => by cases e; exact hln rfl)]; exact s1, by rw [World.cell?_setCell_other _ _ _ _ (fun e => by cases e; exact hln rfl), World.cell?_setCell_other _ _ _ _ (fun e => by cases e)]; exact s2⟩
            refine wpAnyE_done (by kernel_rfl) ?_ _
            refine hQ _ _ ⟨lb, g, cap, ?_, Below.setCell (p := ⟨lb, 1, none⟩) (Below.setCell (p := ⟨lb, 0, none⟩) E4 (Nat.le_of_lt hlw) _) (Nat.le_of_lt hlw) _, HCC.out.1, HCC.out.2, (HRS.out.set hgl 0 _).set hgl 1 _, ?_, ?_, ?_, ?_⟩
            · simp only [Act.put, List.setIfInBounds_toArray, List.set_cons_zero, List.set_cons_succ]
            · rw [World.cell?_setCell_other _ _ _ _ (fun e => by cases e)]
              exact World.cell?_setCell_same _ _ _ m0
            · exact World.cell?_setCell_same _ _ _ ((World.cell?_setCell_other _ _ _ _ (fun e => by cases e)).trans m1)
            · rw [World.cell?_setCell_other _ _ _ _ (fun e => by cases e), World.cell?_setCell_other _ _ _ _ (fun e => by cases e; exact hln rfl)]
              exact s1
            · rw [World.cell?_setCell_other _ _ _ _ (fun e => by cases e; exact hln rfl), World.cell?_setCell_other _ _ _ _ (fun e => by cases e)]
              exact s2
          · have EA : Ext w5 (w5.alloc (.cells #[.slice none 0 0, .slice none 0 0] 25)) := (Ext.refl _).alloc _
            have NT := NewT.made w5 25
            obtain ⟨lb, hlb⟩ : ∃ lb, lb = w5.heap.size := ⟨_, rfl⟩
            go_simp
            refine hK.out _ _ ⟨EA.cell s1, EA.cell s2⟩ (fun hHeld => ?_)
            clear hK K
            (try simp only [Act.put, List.setIfInBounds_toArray, List.set_cons_zero, List.set_cons_succ])
            rw [← hlb] at NT ⊢
            replace E4 := E4.trans EA
            replace s1 := EA.cell s1
            replace s2 := EA.cell s2
            have hlw : w.heap.size < lb := by omega
            have hgl : g ≠ lb := by omega
            replace HRS := Lib.hid (HRS.out.ext EA)
            clear EA hHeld hlb
            generalize w5.alloc (.cells #[.slice none 0 0, .slice none 0 0] 25) = w5 at NT E4 s1 s2 HRS ⊢
            (refine wpAnyE_one (i := 6) (o := ?_) ?_ (by kernel_rfl) (fun K hK => ?_); rotate_left; (focus ((simp only [List.getElem?_toArray, List.getElem?_cons_succ, List.getElem?_cons_zero]; exact rfl))); go_simp; go_at_call 34; refine (HLP.out _ g cap i hiN (by omega) HCC.out.1 HCC.out.2 HRS.out).mono ?_; rintro e w6 ⟨rfl, hRC, hB, hsc, hsf⟩; go_wp2_with fail; refine hK.out _ _ ?_ (fun hHeld => ?_); rotate_left; clear hK K; (try simp only [Act.put, List.setIfInBounds_toArray, List.set_cons_zero, List.set_cons_succ]))
            rotate_left
            · exact ⟨(hsc ⟨w.heap.size, 0, none⟩ hwn).trans s1, (hsc ⟨w.heap.size, 1, none⟩ hwn).trans s2⟩
            replace HRS := Lib.hid hRC
            replace E4 : Ext w w6 := Below.trans E4 (hB.mono (Nat.le_of_lt hwg))
            replace s1 := (hsc ⟨w.heap.size, 0, none⟩ hwn).trans s1
            replace s2 := (hsc ⟨w.heap.size, 1, none⟩ hwn).trans s2
            replace NT := NT.same hgl.symm hsc hsf
            clear hB hsc hsf HLP
            ((refine ePu 9 ?_))
            have hln : w.heap.size ≠ lb := by omega
            have m0 := NT.c0
            have m1 := NT.c1
            have k0 := NT.f0
            have k1 := NT.f1
            (refine wpAnyE_one (i := 11) (o := ?_) ?_ (by kernel_rfl) (fun K hK => ?_); rotate_left; (focus ((simp only [List.getElem?_toArray, List.getElem?_cons_succ, List.getElem?_cons_zero]; exact rfl))); go_simp; refine hK.out _ _ ?_ (fun hHeld => ?_); rotate_left; clear hK K; (try simp only [Act.put, List.setIfInBounds_toArray, List.set_cons_zero, List.set_cons_succ]))
            rotate_left
            · exact ⟨by rw [World.cell?_setCell_other _ _ _ _ (fun e => by cases e), World.cell?_setCell_other _ _ _ _ (fun e => by cases e; exact hln rfl)]; exact s1, by rw [World.cell?_setCell_other _ _ _ _ (fun e => by cases e; exact hln rfl), World.cell?_setCell_other _ _ _ _ (fun e => by cases e)]; exact s2⟩
            refine wpAnyE_done (by kernel_rfl) ?_ _
            refine hQ _ _ ⟨lb, g, cap, ?_, Below.setCell (p := ⟨lb, 1, none⟩) (Below.setCell (p := ⟨lb, 0, none⟩) E4 (Nat.le_of_lt hlw) _) (Nat.le_of_lt hlw) _, HCC.out.1, HCC.out.2, (HRS.out.set hgl 0 _).set hgl 1 _, ?_, ?_, ?_, ?_⟩
            · simp only [Act.put, List.setIfInBounds_toArray, List.set_cons_zero, List.set_cons_succ]
            · rw [World.cell?_setCell_other _ _ _ _ (fun e => by cases e)]
              exact World.cell?_setCell_same _ _ _ m0
            · exact World.cell?_setCell_same _ _ _ ((World.cell?_setCell_other _ _ _ _ (fun e => by cases e)).trans m1)
            · rw [World.cell?_setCell_other _ _ _ _ (fun e => by cases e), World.cell?_setCell_other _ _ _ _ (fun e => by cases e; exact hln rfl)]
              exact s1
            · rw [World.cell?_setCell_other _ _ _ _ (fun e => by cases e; exact hln rfl), World.cell?_setCell_other _ _ _ _ (fun e => by cases e)]
              exact s2
        · have EA : Ext w4 (w4.alloc (.cells #[.slice none 0 0, .slice none 0 0] 25)) := (Ext.refl _).alloc _
          have NT := NewT.made w4 25
          obtain ⟨lb, hlb⟩ : ∃ lb, lb = w4.heap.size := ⟨_, rfl⟩
          go_simp
          refine hK.out _ _ ⟨EA.cell s1, EA.cell s2⟩ (fun hHeld => ?_)
          clear hK K
          (try simp only [Act.put, List.setIfInBounds_toArray, List.set_cons_zero, List.set_cons_succ])
          rw [← hlb] at NT ⊢
          replace E4 := E4.trans EA
          replace s1 := EA.cell s1
          replace s2 := EA.cell s2
          have hlw : w.heap.size < lb := by omega
          have zw := cell_lt NT.c0
          dsimp only at zw
          clear EA hHeld zz hlb
          generalize w4.alloc (.cells #[.slice none 0 0, .slice none 0 0] 25) = w4 at NT E4 s1 s2 zw ⊢
          have zz := cell_lt s1
          dsimp only at zz
          (refine wpAnyE_one (i := 2) (o := ?_) ?_ (by kernel_rfl) (fun K hK => ?_); rotate_left; (focus ((simp only [List.getElem?_toArray, List.getElem?_cons_succ, List.getElem?_cons_zero]; exact rfl))); go_simp; go_at_call 35; refine (HCP.out _ E4 (by omega) (by omega)).mono ?_; rintro e w5 ⟨g, cap, rfl, hgw, hcap, hcm, hRC, hE⟩; go_wp2_with fail; refine hK.out _ _ ?_ (fun hHeld => ?_); rotate_left; clear hK K; (try simp only [Act.put, List.setIfInBounds_toArray, List.set_cons_zero, List.set_cons_succ]))
          rotate_left
          · exact ⟨hE.cell s1, hE.cell s2⟩
          have HRS := Lib.hid hRC
          have HCC := Lib.hid (And.intro hcap hcm)
          replace E4 := E4.trans hE
          replace s1 := hE.cell s1
          replace s2 := hE.cell s2
          have hwg : w.heap.size < g := by omega
          clear hcap hcm hRC HCP
          have hwn : w.heap.size ≠ g := by omega
          have hgl : g ≠ lb := by omega
          replace NT := NT.ext hE
          clear zz zw hE hgw hHeld
          (refine wpAnyE_one (i := 6) (o := ?_) ?_ (by kernel_rfl) (fun K hK => ?_); rotate_left; (focus ((simp only [List.getElem?_toArray, List.getElem?_cons_succ, List.getElem?_cons_zero]; exact rfl))); go_simp; go_at_call 34; refine (HLP.out _ g cap i hiN (by omega) HCC.out.1 HCC.out.2 HRS.out).mono ?_; rintro e w6 ⟨rfl, hRC, hB, hsc, hsf⟩; go_wp2_with fail; refine hK.out _ _ ?_ (fun hHeld => ?_); rotate_left; clear hK K; (try simp only [Act.put, List.setIfInBounds_toArray, List.set_cons_zero, List.set_cons_succ]))
          rotate_left
          · exact ⟨(hsc ⟨w.heap.size, 0, none⟩ hwn).trans s1, (hsc ⟨w.heap.size, 1, none⟩ hwn).trans s2⟩
          replace HRS := Lib.hid hRC
          replace E4 : Ext w w6 := Below.trans E4 (hB.mono (Nat.le_of_lt hwg))
          replace s1 := (hsc ⟨w.heap.size, 0, none⟩ hwn).trans s1
          replace s2 := (hsc ⟨w.heap.size, 1, none⟩ hwn).trans s2
          replace NT := NT.same hgl.symm hsc hsf
          clear hB hsc hsf HLP
          ((refine ePu 9 ?_))
          have hln : w.heap.size ≠ lb := by omega
          have m0 := NT.c0
          have m1 := NT.c1
          have k0 := NT.f0
          have k1 := NT.f1
          (refine wpAnyE_one (i := 11) (o := ?_) ?_ (by kernel_rfl) (fun K hK => ?_); rotate_left; (focus ((simp only [List.getElem?_toArray, List.getElem?_cons_succ, List.getElem?_cons_zero]; exact rfl))); go_simp; refine hK.out _ _ ?_ (fun hHeld => ?_); rotate_left; clear hK K; (try simp only [Act.put, List.setIfInBounds_toArray, List.set_cons_zero, List.set_cons_succ]))
          rotate_left
          · exact ⟨by rw [World.cell?_setCell_other _ _ _ _ (fun e => by cases e), World.cell?_setCell_other _ _ _ _ (fun e => by cases e; exact hln rfl)]; exact s1, by rw [World.cell?_setCell_other _ _ _ _ (fun e => by cases e; exact hln rfl), World.cell?_setCell_other _ _ _ _ (fun e => by cases e)]; exact s2⟩
          refine wpAnyE_done (by kernel_rfl) ?_ _
          refine hQ _ _ ⟨lb, g, cap, ?_, Below.setCell (p := ⟨lb, 1, none⟩) (Below.setCell (p := ⟨lb, 0, none⟩) E4 (Nat.le_of_lt hlw) _) (Nat.le_of_lt hlw) _, HCC.out.1, HCC.out.2, (HRS.out.set hgl 0 _).set hgl 1 _, ?_, ?_, ?_, ?_⟩
          · simp only [Act.put, List.setIfInBounds_toArray, List.set_cons_zero, List.set_cons_succ]
          · rw [World.cell?_setCell_other _ _ _ _ (fun e => by cases e)]
            exact World.cell?_setCell_same _ _ _ m0
          · exact World.cell?_setCell_same _ _ _ ((World.cell?_setCell_other _ _ _ _ (fun e => by cases e)).trans m1)
          · rw [World.cell?_setCell_other _ _ _ _ (fun e => by cases e), World.cell?_setCell_other _ _ _ _ (fun e => by cases e; exact hln rfl)]
            exact s1
          · rw [World.cell?_setCell_other _ _ _ _ (fun e => by cases e; exact hln rfl), World.cell?_setCell_other _ _ _ _ (fun e => by cases e)]
            exact s2
      case tail =>
        clear y1 y2 E3 zz cd zd
        rintro a W ⟨lb, g, cap, rfl, E4, hc1, hc2, hR, m0, m1, s1, s2⟩
        have HTK := Lib.hid (HTL.out W g cap i E4 hiN hc1 hc2 hR)
        have hlen : (pks.eraseIdx i).length = N - 1 := by rw [List.length_eraseIdx, ← HN.out, if_pos hiN]
        have HIX := Lib.hid (IndexP_any (cap := cap) (xb := w.heap.size) HTK.out.pk hlen.symm (by omega) s2 HTK.out.nd HK.out (by omega) (fun j hj => by have := HNB.out j (by rw [HK.out]; exact hj); omega))
        have HLE := Lib.hid hlen
        have zl := cell_lt m0
        have zs := cell_lt s1
        dsimp only at zl zs
        clear hlen hR hc1 hc2
        simp only [Act.put, List.setIfInBounds_toArray, List.set_cons_zero, List.set_cons_succ]
        go_wp2_with fail
        refine HIX.out.mono ?_
        rintro e w5 ⟨r, rfl, hr, hE⟩
        replace E4 := E4.trans hE
        replace m0 := hE.cell m0
        replace m1 := hE.cell m1
        replace s1 := hE.cell s1
        replace s2 := hE.cell s2
        have HRR := Lib.hid hr
        have zl := cell_lt m0
        have zs := cell_lt s1
        dsimp only at zl zs
        by_cases hr0 : r < 0
        · have hex := HSF.out (fun j hj => HRR.out hr0 j (by rw [← HLE.out]; exact hj))
          have HO2 := Lib.hid (Order_any (HTK.out.ext hE))
          unfold OrdP taskV at HO2
          rw [hex.1, hex.2, HLE.out, ← HK.out] at HO2
          generalize orderL (pks.eraseIdx i) need = ol9 at HO2
          clear hex hr hE HIX HRR HSF HTK HLE
          go_wp2_with fail
          refine HO2.out.mono ?_
          rintro e w6 ⟨la9, lc9, rfl, _, hE⟩
          have ET : Ext w w6 := E4.trans hE
          have y1 := hE.cell s1
          have y2 := hE.cell s2
          have zT := cell_lt y1
          dsimp only at zT
          clear hE E4 m0 m1 s1 s2 zl zs HO2
          have hk5 : ((K : Int) == 0) = false := by simp; omega
          have hk4 : (0 : Int) < (K : Int) := by omega
          have hq0 : 0 ≤ z.tmod (K : Int) := Int.tmod_nonneg _ hz0
          have hq1 : z.tmod (K : Int) < (K : Int) := Int.tmod_lt_of_pos _ hk4
          obtain ⟨t, ht⟩ : ∃ t : Nat, z.tmod (K : Int) = (t : Int) := ⟨(z.tmod (K : Int)).toNat, by omega⟩
          have htK : t < K := by omega
          clear hq0 hq1
          go_wp2
          refine wp_key (FewX w need pa na N K pc nc) ?tail2 ?reg2
          case reg2 =>
            intro hQ
            refine wp_region_heldE 99 (fun w' => w'.cell? ⟨w.heap.size, 0, none⟩ = some (.slice pa N pc) ∧ w'.cell? ⟨w.heap.size, 1, none⟩ = some (.slice na K nc)) (by kernel_rfl) ?_
            have ED : Ext w6 w6.drew := (Ext.refl _).drew
            have hS := And.intro (ED.cell y1) (ED.cell y2)
            have E4 := ET.trans ED
            clear y1 y2 ET ED zT
            generalize w6.drew = w4 at hS E4 ⊢
            have s1 := hS.1
            have s2 := hS.2
            have zz := cell_lt s1
            dsimp only at zz
            ((refine eTk 0 ?_); (refine eTk 1 ?_); (refine eTk 2 ?_); (refine eTk 3 ?_))
            clear hS
            refine wpAnyE_two (i := 4) (j := 6) (o := ?_) (p := ?_) (by (simp only [List.getElem?_toArray, List.getElem?_cons_succ, List.getElem?_cons_zero]; exact rfl)) (by (simp only [List.getElem?_toArray, List.getElem?_cons_succ, List.getElem?_cons_zero]; exact rfl)) (by kernel_rfl) (fun K hK => ?_) (fun K hK => ?_)
            · go_simp
              go_at_call 28
              refine (HCN.out _ E4).mono ?_
              rintro e w5 ⟨vb, vc, rfl, hO, hvb, hE⟩
              go_wp2_with fail
              refine hK.out _ _ ⟨hE.cell s1, hE.cell s2⟩ (fun hHeld => ?_)
              clear hK K
              (try simp only [Act.put, List.setIfInBounds_toArray, List.set_cons_zero, List.set_cons_succ])
              have HO := Lib.hid hO
              replace E4 : Ext w w5 := E4.trans hE
              replace s1 := hE.cell s1
              replace s2 := hE.cell s2
              have hwg : w.heap.size < vb := by omega
              have hgs : vb < w5.heap.size := hO.lt rfl
              clear hE hO zz hvb
              ((refine ePu 5 ?_))
              have hw5 := E4.size
              (refine wpAnyE_one (i := 6) (o := ?_) ?_ (by kernel_rfl) (fun K hK => ?_); rotate_left; (focus ((simp only [List.getElem?_toArray, List.getElem?_cons_succ, List.getElem?_cons_zero]; exact rfl))); go_simp; refine hK.out _ _ ?_ (fun hHeld => ?_); rotate_left; clear hK K; (try simp only [Act.put, List.setIfInBounds_toArray, List.set_cons_zero, List.set_cons_succ]))
              rotate_left
              · exact ⟨((Ext.refl w5).alloc _).cell s1, ((Ext.refl w5).alloc _).cell s2⟩
              have EA : Ext w5 (w5.alloc (.cells #[.slice none 0 0, .slice none 0 0] 25)) := (Ext.refl _).alloc _
              have NT := NewT.made w5 25
              obtain ⟨lb, hlb⟩ : ∃ lb, lb = w5.heap.size := ⟨_, rfl⟩
              rw [← hlb] at NT ⊢
              have hlw : w.heap.size < lb := by omega
              have hgl : lb ≠ vb := by omega
              replace E4 : Ext w _ := E4.trans EA
              replace s1 := EA.cell s1
              replace s2 := EA.cell s2
              replace HO := Lib.hid (HO.out.ext EA)
              clear EA hlb hgs hw5
              generalize w5.alloc (.cells #[.slice none 0 0, .slice none 0 0] 25) = w7 at NT E4 s1 s2 HO hHeld ⊢
              have hln : w.heap.size ≠ lb := by omega
              have m0 := NT.c0
              have m1 := NT.c1
              have k0 := NT.f0
              have k1 := NT.f1
              (refine wpAnyE_one (i := 7) (o := ?_) ?_ (by kernel_rfl) (fun K hK => ?_); rotate_left; (focus ((simp only [List.getElem?_toArray, List.getElem?_cons_succ, List.getElem?_cons_zero]; exact rfl))); go_simp; refine hK.out _ _ ?_ (fun hHeld => ?_); rotate_left; clear hK K; (try simp only [Act.put, List.setIfInBounds_toArray, List.set_cons_zero, List.set_cons_succ]))
              rotate_left
              · exact ⟨by rw [World.cell?_setCell_other _ _ _ _ (fun e => by cases e), World.cell?_setCell_other _ _ _ _ (fun e => by cases e; exact hln rfl)]; exact s1, by rw [World.cell?_setCell_other _ _ _ _ (fun e => by cases e; exact hln rfl), World.cell?_setCell_other _ _ _ _ (fun e => by cases e)]; exact s2⟩
              refine wpAnyE_done (by kernel_rfl) ?_ _
              refine hQ _ _ ⟨lb, vb, vc, ?_, Below.setCell (p := ⟨lb, 1, none⟩) (Below.setCell (p := ⟨lb, 0, none⟩) E4 (Nat.le_of_lt hlw) _) (Nat.le_of_lt hlw) _, ownsI_setO (ownsI_setO HO.out hgl 0 _) hgl 1 _, hwg, hgl, ?_, ?_, ?_, ?_⟩
              · simp only [Act.put, List.setIfInBounds_toArray, List.set_cons_zero, List.set_cons_succ]
              · rw [World.cell?_setCell_other _ _ _ _ (fun e => by cases e)]
                exact World.cell?_setCell_same _ _ _ m0
              · exact World.cell?_setCell_same _ _ _ ((World.cell?_setCell_other _ _ _ _ (fun e => by cases e)).trans m1)
              · rw [World.cell?_setCell_other _ _ _ _ (fun e => by cases e), World.cell?_setCell_other _ _ _ _ (fun e => by cases e; exact hln rfl)]
                exact s1
              · rw [World.cell?_setCell_other _ _ _ _ (fun e => by cases e; exact hln rfl), World.cell?_setCell_other _ _ _ _ (fun e => by cases e)]
                exact s2
            · have EA : Ext w4 (w4.alloc (.cells #[.slice none 0 0, .slice none 0 0] 25)) := (Ext.refl _).alloc _
              have NT := NewT.made w4 25
              obtain ⟨lb, hlb⟩ : ∃ lb, lb = w4.heap.size := ⟨_, rfl⟩
              go_simp
              refine hK.out _ _ ⟨EA.cell s1, EA.cell s2⟩ (fun hHeld => ?_)
              clear hK K
              (try simp only [Act.put, List.setIfInBounds_toArray, List.set_cons_zero, List.set_cons_succ])
              rw [← hlb] at NT ⊢
              replace E4 := E4.trans EA
              replace s1 := EA.cell s1
              replace s2 := EA.cell s2
              have hlw : w.heap.size < lb := by omega
              have zw := cell_lt NT.c0
              dsimp only at zw
              clear EA hHeld zz hlb
              generalize w4.alloc (.cells #[.slice none 0 0, .slice none 0 0] 25) = w4 at NT E4 s1 s2 zw ⊢
              (refine wpAnyE_one (i := 4) (o := ?_) ?_ (by kernel_rfl) (fun K hK => ?_); rotate_left; (focus ((simp only [List.getElem?_toArray, List.getElem?_cons_succ, List.getElem?_cons_zero]; exact rfl))); go_simp; go_at_call 28; refine (HCN.out _ E4).mono ?_; rintro e w5 ⟨vb, vc, rfl, hO, hvb, hE⟩; go_wp2_with fail; refine hK.out _ _ ?_ (fun hHeld => ?_); rotate_left; clear hK K; (try simp only [Act.put, List.setIfInBounds_toArray, List.set_cons_zero, List.set_cons_succ]))
              rotate_left
              · exact ⟨hE.cell s1, hE.cell s2⟩
              have HO := Lib.hid hO
              replace E4 := E4.trans hE
              replace s1 := hE.cell s1
              replace s2 := hE.cell s2
              replace NT := NT.ext hE
              have hwg : w.heap.size < vb := by omega
              have hgl : lb ≠ vb := by omega
              clear hE hO zw hvb
              ((refine ePu 5 ?_))
              have hln : w.heap.size ≠ lb := by omega
              have m0 := NT.c0
              have m1 := NT.c1
              have k0 := NT.f0
              have k1 := NT.f1
              (refine wpAnyE_one (i := 7) (o := ?_) ?_ (by kernel_rfl) (fun K hK => ?_); rotate_left; (focus ((simp only [List.getElem?_toArray, List.getElem?_cons_succ, List.getElem?_cons_zero]; exact rfl))); go_simp; refine hK.out _ _ ?_ (fun hHeld => ?_); rotate_left; clear hK K; (try simp only [Act.put, List.setIfInBounds_toArray, List.set_cons_zero, List.set_cons_succ]))
              rotate_left
              · exact ⟨by rw [World.cell?_setCell_other _ _ _ _ (fun e => by cases e), World.cell?_setCell_other _ _ _ _ (fun e => by cases e; exact hln rfl)]; exact s1, by rw [World.cell?_setCell_other _ _ _ _ (fun e => by cases e; exact hln rfl), World.cell?_setCell_other _ _ _ _ (fun e => by cases e)]; exact s2⟩
              refine wpAnyE_done (by kernel_rfl) ?_ _
              refine hQ _ _ ⟨lb, vb, vc, ?_, Below.setCell (p := ⟨lb, 1, none⟩) (Below.setCell (p := ⟨lb, 0, none⟩) E4 (Nat.le_of_lt hlw) _) (Nat.le_of_lt hlw) _, ownsI_setO (ownsI_setO HO.out hgl 0 _) hgl 1 _, hwg, hgl, ?_, ?_, ?_, ?_⟩
              · simp only [Act.put, List.setIfInBounds_toArray, List.set_cons_zero, List.set_cons_succ]
              · rw [World.cell?_setCell_other _ _ _ _ (fun e => by cases e)]
                exact World.cell?_setCell_same _ _ _ m0
              · exact World.cell?_setCell_same _ _ _ ((World.cell?_setCell_other _ _ _ _ (fun e => by cases e)).trans m1)
              · rw [World.cell?_setCell_other _ _ _ _ (fun e => by cases e), World.cell?_setCell_other _ _ _ _ (fun e => by cases e; exact hln rfl)]
                exact s1
              · rw [World.cell?_setCell_other _ _ _ _ (fun e => by cases e; exact hln rfl), World.cell?_setCell_other _ _ _ _ (fun e => by cases e)]
                exact s2
          case tail2 =>
            clear y1 y2 ET zT
            rintro a W ⟨lb, vb, vc, rfl, E4, hO, hwv, hlv, m0, m1, s1, s2⟩
            simp only [Act.put, List.setIfInBounds_toArray, List.set_cons_zero, List.set_cons_succ]
            obtain ⟨d1, d2⟩ := hO.at (i := t) (by rw [← HK.out]; exact htK)
            have HVC : Hid (K ≤ vc ∧ vc ≤ maxLen) := by
              obtain ⟨_, _, hv9, _, hv1, hv2⟩ := hO.full
              obtain ⟨_, e8, e9⟩ := Value.slice.inj hv9
              rw [← e8, ← e9] at hv1
              rw [← e9] at hv2
              exact ⟨hv1, hv2⟩
            have hxb := HNB.out t htK
            have HFM := Lib.hid (fun mx h0 h1 => fewer_of (mx := mx) (t := t) (need := need) (by rw [← HK.out]; exact htK) HSE.out.nd h0 h1)
            generalize need.getD t 0 = x at d1 hxb HFM
            have q1 : IntKind.i64.wrap (x - 1) = x - 1 := IntWalk.i64_in _ (by omega)
            obtain ⟨mx, hmx⟩ : ∃ mx, max 0 (x - 1) = mx := ⟨_, rfl⟩
            have hmx0 : 0 ≤ mx ∧ mx ≤ x := by omega
            obtain ⟨n1, n2, n3⟩ := HFM.out mx hmx0.1 hmx0.2
            have HMX := Lib.hid hmx
            have HOS := Lib.hid hO
            have zl := cell_lt m0
            have zv := cell_lt d1
            have zs := cell_lt s1
            dsimp only at zl zv zs
            clear hmx hmx0 HFM hO
            go_wp2
            refine wp_region_heldE 11 (fun w' => w'.cell? ⟨lb, 1, none⟩ = some (.slice (some ⟨vb, 0, none⟩) K vc) ∧ w'.cell? ⟨vb, t, none⟩ = some (.int .i64 x)) (by kernel_rfl) ?_
            have ED : Ext W W.drew := (Ext.refl _).drew
            have hS : W.drew.cell? ⟨lb, 1, none⟩ = some (.slice (some ⟨vb, 0, none⟩) K vc) ∧ W.drew.cell? ⟨vb, t, none⟩ = some (.int .i64 x) := ⟨m1, d1⟩
            replace E4 := E4.trans ED
            replace m0 := ED.cell m0
            replace m1 := ED.cell m1
            replace d1 := ED.cell d1
            replace s1 := ED.cell s1
            replace s2 := ED.cell s2
            replace HOS := Lib.hid (HOS.out.ext ED)
            have d3 : W.drew.frozen? ⟨vb, t, none⟩ = false := d2
            clear ED d2 zl zv zs
            generalize W.drew = W at hS E4 m0 m1 d1 s1 s2 HOS d3 ⊢
            ((refine eTk 0 ?_); (refine eTk 1 ?_); (refine eTk 2 ?_); (refine eTk 3 ?_); (refine eTk 4 ?_); (refine eTk 5 ?_); (refine eTk 6 ?_); (refine eTk 7 ?_); (refine eTk 8 ?_))
            (refine wpAnyE_pure (v := .int .i64 mx) (i := 9) (oi := ?_) ?_ (by kernel_rfl) ?_ ?_ ?_ ?_; rotate_left; (focus ((simp only [List.getElem?_toArray, List.getElem?_cons_succ, List.getElem?_cons_zero]; exact rfl))); (focus (exact fun _ _ _ h => h)); (focus (refine Or.inl ⟨by rfl, ?_⟩; intro w hSw; clear hSw; go_simp; exact HMX.out)); (focus (first | exact (fun _ => by assumption) | (intro hlst; exact absurd hlst (by kernel_rfl)) | (intro hlst; cases hlst))); (try simp only [Act.put, List.setIfInBounds_toArray, List.set_cons_zero, List.set_cons_succ]))
            (refine eTk 10 ?_)
            (refine wpAnyE_free (i := 11) (o := ?_) ?_ (by kernel_rfl) (by kernel_rfl) (fun K hK => ?_); rotate_left; (focus ((simp only [List.getElem?_toArray, List.getElem?_cons_succ, List.getElem?_cons_zero]; exact rfl))); go_simp; refine hK.out _ _ ?_; clear hK K; (try simp only [Act.put, List.setIfInBounds_toArray, List.set_cons_zero, List.set_cons_succ]))
            refine wpAnyE_done (by kernel_rfl) ?_ _
            have hvw : w.heap.size ≠ vb := by omega
            have hc2 : ∀ b o, b ≠ vb → (W.setCell ⟨vb, t, none⟩ (.int .i64 mx)).cell? ⟨b, o, none⟩ = W.cell? ⟨b, o, none⟩ := fun b o hb => World.cell?_setCell_other _ _ _ _ (fun e => by cases e; exact hb rfl)
            have E5 : Ext w (W.setCell ⟨vb, t, none⟩ (.int .i64 mx)) := Below.setCell (p := ⟨vb, t, none⟩) E4 (Nat.le_of_lt hwv) _
            replace m0 := (hc2 lb 0 hlv).trans m0
            replace m1 := (hc2 lb 1 hlv).trans m1
            replace s1 := (hc2 _ 0 hvw).trans s1
            replace s2 := (hc2 _ 1 hvw).trans s2
            have hOS := HOS.out.set t mx
            have HT2 : Hid (TaskG (W.setCell ⟨vb, t, none⟩ (.int .i64 mx)) pks (need.set t mx) pa pc (some ⟨vb, 0, none⟩) vc) := ⟨HT.out.pk.ext E5, by
              obtain ⟨_, _, hv9, hc9, _⟩ := hOS.full
              rw [(Value.slice.inj hv9).1]
              exact hc9, HT.out.p1, HT.out.p2, by rw [n1, ← HK.out]; exact HVC.out.1, HVC.out.2⟩
            have HO2 := Lib.hid (Order_any HT2.out)
            unfold OrdP taskV at HO2
            rw [n1, ← HK.out, ← HN.out] at HO2
            have HF2 := Lib.hid (HFW.out HSE.out _ n1 n2 n3)
            generalize orderL pks (need.set t mx) = ol2 at HO2
            generalize orderP pks (need.set t mx) = op2 at HO2 HF2
            generalize orderE pks (need.set t mx) = oe2 at HO2 HF2
            clear hOS HOS d1 d3 hS E4 n1 n2 n3 HT2 hc2 q1 HMX HVC
            generalize W.setCell ⟨vb, t, none⟩ (.int .i64 mx) = W at E5 m0 m1 s1 s2 HO2 ⊢
            have zl := cell_lt m0
            have zs := cell_lt s1
            dsimp only at zl zs
            go_wp2_with fail
            refine HO2.out.mono ?_
            rintro e w6 ⟨la2, lc2, rfl, _, hE⟩
            replace E5 := E5.trans hE
            replace s1 := hE.cell s1
            replace s2 := hE.cell s2
            have zs := cell_lt s1
            dsimp only at zs
            clear hE m0 m1 zl HO2
            go_wp2
            refine wp_region_heldE 99 (fun w' => w'.cell? ⟨w.heap.size, 0, none⟩ = some (.slice pa N pc) ∧ w'.cell? ⟨w.heap.size, 1, none⟩ = some (.slice na K nc)) (by kernel_rfl) ?_
            have ED : Ext w6 w6.drew := (Ext.refl _).drew
            have hS := And.intro (ED.cell s1) (ED.cell s2)
            replace E5 := E5.trans ED
            clear s1 s2 ED zs
            generalize w6.drew = w6 at hS E5 ⊢
            have s1 := hS.1
            have s2 := hS.2
            have zs := cell_lt s1
            dsimp only at zs
            ((refine eTk 0 ?_); (refine eTk 1 ?_); (refine eTk 2 ?_); (refine eTk 3 ?_); (refine eTk 4 ?_))
            obtain ⟨w7, hr, hcz, hE⟩ := zeros_run w6 K (by omega)
            obtain ⟨Kv, hKv⟩ : ∃ Kv : Value, Kv = .int .i64 (K : Int) := ⟨_, rfl⟩
            rw [← hKv] at hr
            have HR := Lib.hid hr
            have HCZ := Lib.hid hcz
            (refine wpAnyE_one (i := 5) (o := ?_) ?_ (by kernel_rfl) (fun K hK => ?_); rotate_left; (focus ((simp only [List.getElem?_toArray, List.getElem?_cons_succ, List.getElem?_cons_zero]; exact rfl))); refine step_make rfl _ _ 23 rfl Kv Kv (by rw [hKv]; rfl) (by rw [hKv]; rfl) _ _ HR.out ?_; refine hK.out _ _ ?_ (fun hHeld => ?_); rotate_left; clear hK K; (try simp only [Act.put, List.setIfInBounds_toArray, List.set_cons_zero, List.set_cons_succ]))
            rotate_left
            · exact ⟨hE.cell s1, hE.cell s2⟩
            replace E5 := E5.trans hE
            replace s1 := hE.cell s1
            replace s2 := hE.cell s2
            have zs := cell_lt s1
            dsimp only at zs
            clear hE hr hcz HR hKv
            obtain ⟨p0, p1, p2, p3, p4, p5⟩ := HNO.out
            have HO3 := Lib.hid (Order_any (pks := pks) (need := List.replicate K 0) (pa := pa) (pc := pc) (na := some ⟨w6.heap.size, 0, none⟩) (nc := K) (w := w7) ⟨HT.out.pk.ext E5, HCZ.out, HT.out.p1, HT.out.p2, by rw [List.length_replicate]; exact Nat.le_refl _, by unfold maxLen; omega⟩)
            unfold OrdP taskV at HO3
            rw [List.length_replicate, p1, p2, p3, ← HN.out] at HO3
            rw [p3, ← HN.out] at p5
            have HSU : Hid (∀ (a9 : Option Addr) (c9 : Nat) W, CellsI W a9 (orderL pks (List.replicate K 0)) → Calls Tryz.prog 29 #[.slice a9 N c9] W fun e w' => e = .returned (.int .i64 0) ∧ Ext W w') := fun a9 c9 W hc => by
              have h := sumI_any _ a9 c9 W hc (by rw [p3, ← HN.out]; omega) (fun i hi => p5 i (by rw [p3, ← HN.out] at hi; exact hi))
              rw [p3, p4, ← HN.out] at h
              exact h
            generalize orderL pks (List.replicate K 0) = ol3 at HO3 HSU
            clear p0 p1 p2 p3 p4 p5 HCZ
            ((refine ePu 6 ?_))
            (refine wpAnyE_one (i := 7) (o := ?_) ?_ (by kernel_rfl) (fun K hK => ?_); rotate_left; (focus ((simp only [List.getElem?_toArray, List.getElem?_cons_succ, List.getElem?_cons_zero]; exact rfl))); go_simp; go_at_call 13; refine HO3.out.mono ?_; rintro e w8 ⟨la3, lc3, rfl, hc3, hE⟩; go_wp2_with fail; refine hK.out _ _ ?_ (fun hHeld => ?_); rotate_left; clear hK K; (try simp only [Act.put, List.setIfInBounds_toArray, List.set_cons_zero, List.set_cons_succ]))
            rotate_left
            · exact ⟨hE.cell s1, hE.cell s2⟩
            replace E5 := E5.trans hE
            replace s1 := hE.cell s1
            replace s2 := hE.cell s2
            have zs := cell_lt s1
            dsimp only at zs
            have HS3 := Lib.hid (HSU.out la3 lc3 _ hc3)
            clear hE HO3 hc3 HSU hS
            ((refine ePu 8 ?_); (refine ePu 9 ?_); (refine ePu 10 ?_); (refine ePu 11 ?_); (refine ePu 12 ?_); (refine ePu 13 ?_); (refine ePu 14 ?_))
            refine wpAnyE_done (by kernel_rfl) ?_ _
            obtain ⟨rfl, hle⟩ := HF2.out (by first | rfl | trivial)
            have hle2 : ¬ op < op2 := by omega
            go_wp2_with fail
            refine HS3.out.mono ?_
            rintro e w9 ⟨rfl, hE⟩
            replace E5 := E5.trans hE
            clear hE s1 s2 zs HS3
            go_wp2_with fail
            refine (HAW.out _ E5).mono ?_
            rintro e wA ⟨rfl, hE⟩
            go_wp2
            go_ret
            exact ⟨rfl, E5.trans hE⟩
        · have ET : Ext w w5 := E4
          have y1 := s1
          have y2 := s2
          have zT := cell_lt y1
          dsimp only at zT
          clear hr hE HIX HRR HSF HTK HLE E4 m0 m1 s1 s2 zl zs
          have hk5 : ((K : Int) == 0) = false := by simp; omega
          have hk4 : (0 : Int) < (K : Int) := by omega
          have hq0 : 0 ≤ z.tmod (K : Int) := Int.tmod_nonneg _ hz0
          have hq1 : z.tmod (K : Int) < (K : Int) := Int.tmod_lt_of_pos _ hk4
          obtain ⟨t, ht⟩ : ∃ t : Nat, z.tmod (K : Int) = (t : Int) := ⟨(z.tmod (K : Int)).toNat, by omega⟩
          have htK : t < K := by omega
          clear hq0 hq1
          go_wp2
          refine wp_key (FewX w need pa na N K pc nc) ?tail2 ?reg2
          case reg2 =>
            intro hQ
            refine wp_region_heldE 99 (fun w' => w'.cell? ⟨w.heap.size, 0, none⟩ = some (.slice pa N pc) ∧ w'.cell? ⟨w.heap.size, 1, none⟩ = some (.slice na K nc)) (by kernel_rfl) ?_
            have ED : Ext w5 w5.drew := (Ext.refl _).drew
            have hS := And.intro (ED.cell y1) (ED.cell y2)
            have E4 := ET.trans ED
            clear y1 y2 ET ED zT
            generalize w5.drew = w4 at hS E4 ⊢
            have s1 := hS.1
            have s2 := hS.2
            have zz := cell_lt s1
            dsimp only at zz
            ((refine eTk 0 ?_); (refine eTk 1 ?_); (refine eTk 2 ?_); (refine eTk 3 ?_))
            clear hS
            refine wpAnyE_two (i := 4) (j := 6) (o := ?_) (p := ?_) (by (simp only [List.getElem?_toArray, List.getElem?_cons_succ, List.getElem?_cons_zero]; exact rfl)) (by (simp only [List.getElem?_toArray, List.getElem?_cons_succ, List.getElem?_cons_zero]; exact rfl)) (by kernel_rfl) (fun K hK => ?_) (fun K hK => ?_)
            · go_simp
              go_at_call 28
              refine (HCN.out _ E4).mono ?_
              rintro e w5 ⟨vb, vc, rfl, hO, hvb, hE⟩
              go_wp2_with fail
              refine hK.out _ _ ⟨hE.cell s1, hE.cell s2⟩ (fun hHeld => ?_)
              clear hK K
              (try simp only [Act.put, List.setIfInBounds_toArray, List.set_cons_zero, List.set_cons_succ])
              have HO := Lib.hid hO
              replace E4 : Ext w w5 := E4.trans hE
              replace s1 := hE.cell s1
              replace s2 := hE.cell s2
              have hwg : w.heap.size < vb := by omega
              have hgs : vb < w5.heap.size := hO.lt rfl
              clear hE hO zz hvb
              ((refine ePu 5 ?_))
              have hw5 := E4.size
              (refine wpAnyE_one (i := 6) (o := ?_) ?_ (by kernel_rfl) (fun K hK => ?_); rotate_left; (focus ((simp only [List.getElem?_toArray, List.getElem?_cons_succ, List.getElem?_cons_zero]; exact rfl))); go_simp; refine hK.out _ _ ?_ (fun hHeld => ?_); rotate_left; clear hK K; (try simp only [Act.put, List.setIfInBounds_toArray, List.set_cons_zero, List.set_cons_succ]))
              rotate_left
              · exact ⟨((Ext.refl w5).alloc _).cell s1, ((Ext.refl w5).alloc _).cell s2⟩
              have EA : Ext w5 (w5.alloc (.cells #[.slice none 0 0, .slice none 0 0] 25)) := (Ext.refl _).alloc _
              have NT := NewT.made w5 25
              obtain ⟨lb, hlb⟩ : ∃ lb, lb = w5.heap.size := ⟨_, rfl⟩
              rw [← hlb] at NT ⊢
              have hlw : w.heap.size < lb := by omega
              have hgl : lb ≠ vb := by omega
              replace E4 : Ext w _ := E4.trans EA
              replace s1 := EA.cell s1
              replace s2 := EA.cell s2
              replace HO := Lib.hid (HO.out.ext EA)
              clear EA hlb hgs hw5
              generalize w5.alloc (.cells #[.slice none 0 0, .slice none 0 0] 25) = w7 at NT E4 s1 s2 HO hHeld ⊢
              have hln : w.heap.size ≠ lb := by omega
              have m0 := NT.c0
              have m1 := NT.c1
              have k0 := NT.f0
              have k1 := NT.f1
              (refine wpAnyE_one (i := 7) (o := ?_) ?_ (by kernel_rfl) (fun K hK => ?_); rotate_left; (focus ((simp only [List.getElem?_toArray, List.getElem?_cons_succ, List.getElem?_cons_zero]; exact rfl))); go_simp; refine hK.out _ _ ?_ (fun hHeld => ?_); rotate_left; clear hK K; (try simp only [Act.put, List.setIfInBounds_toArray, List.set_cons_zero, List.set_cons_succ]))
              rotate_left
              · exact ⟨by rw [World.cell?_setCell_other _ _ _ _ (fun e => by cases e), World.cell?_setCell_other _ _ _ _ (fun e => by cases e; exact hln rfl)]; exact s1, by rw [World.cell?_setCell_other _ _ _ _ (fun e => by cases e; exact hln rfl), World.cell?_setCell_other _ _ _ _ (fun e => by cases e)]; exact s2⟩
              refine wpAnyE_done (by kernel_rfl) ?_ _
              refine hQ _ _ ⟨lb, vb, vc, ?_, Below.setCell (p := ⟨lb, 1, none⟩) (Below.setCell (p := ⟨lb, 0, none⟩) E4 (Nat.le_of_lt hlw) _) (Nat.le_of_lt hlw) _, ownsI_setO (ownsI_setO HO.out hgl 0 _) hgl 1 _, hwg, hgl, ?_, ?_, ?_, ?_⟩
              · simp only [Act.put, List.setIfInBounds_toArray, List.set_cons_zero, List.set_cons_succ]
              · rw [World.cell?_setCell_other _ _ _ _ (fun e => by cases e)]
                exact World.cell?_setCell_same _ _ _ m0
              · exact World.cell?_setCell_same _ _ _ ((World.cell?_setCell_other _ _ _ _ (fun e => by cases e)).trans m1)
              · rw [World.cell?_setCell_other _ _ _ _ (fun e => by cases e), World.cell?_setCell_other _ _ _ _ (fun e => by cases e; exact hln rfl)]
                exact s1
              · rw [World.cell?_setCell_other _ _ _ _ (fun e => by cases e; exact hln rfl), World.cell?_setCell_other _ _ _ _ (fun e => by cases e)]
                exact s2
            · have EA : Ext w4 (w4.alloc (.cells #[.slice none 0 0, .slice none 0 0] 25)) := (Ext.refl _).alloc _
              have NT := NewT.made w4 25
              obtain ⟨lb, hlb⟩ : ∃ lb, lb = w4.heap.size := ⟨_, rfl⟩
              go_simp
              refine hK.out _ _ ⟨EA.cell s1, EA.cell s2⟩ (fun hHeld => ?_)
              clear hK K
              (try simp only [Act.put, List.setIfInBounds_toArray, List.set_cons_zero, List.set_cons_succ])
              rw [← hlb] at NT ⊢
              replace E4 := E4.trans EA
              replace s1 := EA.cell s1
              replace s2 := EA.cell s2
              have hlw : w.heap.size < lb := by omega
              have zw := cell_lt NT.c0
              dsimp only at zw
              clear EA hHeld zz hlb
              generalize w4.alloc (.cells #[.slice none 0 0, .slice none 0 0] 25) = w4 at NT E4 s1 s2 zw ⊢
              (refine wpAnyE_one (i := 4) (o := ?_) ?_ (by kernel_rfl) (fun K hK => ?_); rotate_left; (focus ((simp only [List.getElem?_toArray, List.getElem?_cons_succ, List.getElem?_cons_zero]; exact rfl))); go_simp; go_at_call 28; refine (HCN.out _ E4).mono ?_; rintro e w5 ⟨vb, vc, rfl, hO, hvb, hE⟩; go_wp2_with fail; refine hK.out _ _ ?_ (fun hHeld => ?_); rotate_left; clear hK K; (try simp only [Act.put, List.setIfInBounds_toArray, List.set_cons_zero, List.set_cons_succ]))
              rotate_left
              · exact ⟨hE.cell s1, hE.cell s2⟩
              have HO := Lib.hid hO
              replace E4 := E4.trans hE
              replace s1 := hE.cell s1
              replace s2 := hE.cell s2
              replace NT := NT.ext hE
              have hwg : w.heap.size < vb := by omega
              have hgl : lb ≠ vb := by omega
              clear hE hO zw hvb
              ((refine ePu 5 ?_))
              have hln : w.heap.size ≠ lb := by omega
              have m0 := NT.c0
              have m1 := NT.c1
              have k0 := NT.f0
              have k1 := NT.f1
              (refine wpAnyE_one (i := 7) (o := ?_) ?_ (by kernel_rfl) (fun K hK => ?_); rotate_left; (focus ((simp only [List.getElem?_toArray, List.getElem?_cons_succ, List.getElem?_cons_zero]; exact rfl))); go_simp; refine hK.out _ _ ?_ (fun hHeld => ?_); rotate_left; clear hK K; (try simp only [Act.put, List.setIfInBounds_toArray, List.set_cons_zero, List.set_cons_succ]))
              rotate_left
              · exact ⟨by rw [World.cell?_setCell_other _ _ _ _ (fun e => by cases e), World.cell?_setCell_other _ _ _ _ (fun e => by cases e; exact hln rfl)]; exact s1, by rw [World.cell?_setCell_other _ _ _ _ (fun e => by cases e; exact hln rfl), World.cell?_setCell_other _ _ _ _ (fun e => by cases e)]; exact s2⟩
              refine wpAnyE_done (by kernel_rfl) ?_ _
              refine hQ _ _ ⟨lb, vb, vc, ?_, Below.setCell (p := ⟨lb, 1, none⟩) (Below.setCell (p := ⟨lb, 0, none⟩) E4 (Nat.le_of_lt hlw) _) (Nat.le_of_lt hlw) _, ownsI_setO (ownsI_setO HO.out hgl 0 _) hgl 1 _, hwg, hgl, ?_, ?_, ?_, ?_⟩
              · simp only [Act.put, List.setIfInBounds_toArray, List.set_cons_zero, List.set_cons_succ]
              · rw [World.cell?_setCell_other _ _ _ _ (fun e => by cases e)]
                exact World.cell?_setCell_same _ _ _ m0
              · exact World.cell?_setCell_same _ _ _ ((World.cell?_setCell_other _ _ _ _ (fun e => by cases e)).trans m1)
              · rw [World.cell?_setCell_other _ _ _ _ (fun e => by cases e), World.cell?_setCell_other _ _ _ _ (fun e => by cases e; exact hln rfl)]
                exact s1
              · rw [World.cell?_setCell_other _ _ _ _ (fun e => by cases e; exact hln rfl), World.cell?_setCell_other _ _ _ _ (fun e => by cases e)]
                exact s2
          case tail2 =>
            clear y1 y2 ET zT
            rintro a W ⟨lb, vb, vc, rfl, E4, hO, hwv, hlv, m0, m1, s1, s2⟩
            simp only [Act.put, List.setIfInBounds_toArray, List.set_cons_zero, List.set_cons_succ]
            obtain ⟨d1, d2⟩ := hO.at (i := t) (by rw [← HK.out]; exact htK)
            have HVC : Hid (K ≤ vc ∧ vc ≤ maxLen) := by
              obtain ⟨_, _, hv9, _, hv1, hv2⟩ := hO.full
              obtain ⟨_, e8, e9⟩ := Value.slice.inj hv9
              rw [← e8, ← e9] at hv1
              rw [← e9] at hv2
              exact ⟨hv1, hv2⟩
            have hxb := HNB.out t htK
            have HFM := Lib.hid (fun mx h0 h1 => fewer_of (mx := mx) (t := t) (need := need) (by rw [← HK.out]; exact htK) HSE.out.nd h0 h1)
            generalize need.getD t 0 = x at d1 hxb HFM
            have q1 : IntKind.i64.wrap (x - 1) = x - 1 := IntWalk.i64_in _ (by omega)
            obtain ⟨mx, hmx⟩ : ∃ mx, max 0 (x - 1) = mx := ⟨_, rfl⟩
            have hmx0 : 0 ≤ mx ∧ mx ≤ x := by omega
            obtain ⟨n1, n2, n3⟩ := HFM.out mx hmx0.1 hmx0.2
            have HMX := Lib.hid hmx
            have HOS := Lib.hid hO
            have zl := cell_lt m0
            have zv := cell_lt d1
            have zs := cell_lt s1
            dsimp only at zl zv zs
            clear hmx hmx0 HFM hO
            go_wp2
            refine wp_region_heldE 11 (fun w' => w'.cell? ⟨lb, 1, none⟩ = some (.slice (some ⟨vb, 0, none⟩) K vc) ∧ w'.cell? ⟨vb, t, none⟩ = some (.int .i64 x)) (by kernel_rfl) ?_
            have ED : Ext W W.drew := (Ext.refl _).drew
            have hS : W.drew.cell? ⟨lb, 1, none⟩ = some (.slice (some ⟨vb, 0, none⟩) K vc) ∧ W.drew.cell? ⟨vb, t, none⟩ = some (.int .i64 x) := ⟨m1, d1⟩
            replace E4 := E4.trans ED
            replace m0 := ED.cell m0
            replace m1 := ED.cell m1
            replace d1 := ED.cell d1
            replace s1 := ED.cell s1
            replace s2 := ED.cell s2
            replace HOS := Lib.hid (HOS.out.ext ED)
            have d3 : W.drew.frozen? ⟨vb, t, none⟩ = false := d2
            clear ED d2 zl zv zs
            generalize W.drew = W at hS E4 m0 m1 d1 s1 s2 HOS d3 ⊢
            ((refine eTk 0 ?_); (refine eTk 1 ?_); (refine eTk 2 ?_); (refine eTk 3 ?_); (refine eTk 4 ?_); (refine eTk 5 ?_); (refine eTk 6 ?_); (refine eTk 7 ?_); (refine eTk 8 ?_))
            (refine wpAnyE_pure (v := .int .i64 mx) (i := 9) (oi := ?_) ?_ (by kernel_rfl) ?_ ?_ ?_ ?_; rotate_left; (focus ((simp only [List.getElem?_toArray, List.getElem?_cons_succ, List.getElem?_cons_zero]; exact rfl))); (focus (exact fun _ _ _ h => h)); (focus (refine Or.inl ⟨by rfl, ?_⟩; intro w hSw; clear hSw; go_simp; exact HMX.out)); (focus (first | exact (fun _ => by assumption) | (intro hlst; exact absurd hlst (by kernel_rfl)) | (intro hlst; cases hlst))); (try simp only [Act.put, List.setIfInBounds_toArray, List.set_cons_zero, List.set_cons_succ]))
            (refine eTk 10 ?_)
            (refine wpAnyE_free (i := 11) (o := ?_) ?_ (by kernel_rfl) (by kernel_rfl) (fun K hK => ?_); rotate_left; (focus ((simp only [List.getElem?_toArray, List.getElem?_cons_succ, List.getElem?_cons_zero]; exact rfl))); go_simp; refine hK.out _ _ ?_; clear hK K; (try simp only [Act.put, List.setIfInBounds_toArray, List.set_cons_zero, List.set_cons_succ]))
            refine wpAnyE_done (by kernel_rfl) ?_ _
            have hvw : w.heap.size ≠ vb := by omega
            have hc2 : ∀ b o, b ≠ vb → (W.setCell ⟨vb, t, none⟩ (.int .i64 mx)).cell? ⟨b, o, none⟩ = W.cell? ⟨b, o, none⟩ := fun b o hb => World.cell?_setCell_other _ _ _ _ (fun e => by cases e; exact hb rfl)
            have E5 : Ext w (W.setCell ⟨vb, t, none⟩ (.int .i64 mx)) := Below.setCell (p := ⟨vb, t, none⟩) E4 (Nat.le_of_lt hwv) _
            replace m0 := (hc2 lb 0 hlv).trans m0
            replace m1 := (hc2 lb 1 hlv).trans m1
            replace s1 := (hc2 _ 0 hvw).trans s1
            replace s2 := (hc2 _ 1 hvw).trans s2
            have hOS := HOS.out.set t mx
            have HT2 : Hid (TaskG (W.setCell ⟨vb, t, none⟩ (.int .i64 mx)) pks (need.set t mx) pa pc (some ⟨vb, 0, none⟩) vc) := ⟨HT.out.pk.ext E5, by
              obtain ⟨_, _, hv9, hc9, _⟩ := hOS.full
              rw [(Value.slice.inj hv9).1]
              exact hc9, HT.out.p1, HT.out.p2, by rw [n1, ← HK.out]; exact HVC.out.1, HVC.out.2⟩
            have HO2 := Lib.hid (Order_any HT2.out)
            unfold OrdP taskV at HO2
            rw [n1, ← HK.out, ← HN.out] at HO2
            have HF2 := Lib.hid (HFW.out HSE.out _ n1 n2 n3)
            generalize orderL pks (need.set t mx) = ol2 at HO2
            generalize orderP pks (need.set t mx) = op2 at HO2 HF2
            generalize orderE pks (need.set t mx) = oe2 at HO2 HF2
            clear hOS HOS d1 d3 hS E4 n1 n2 n3 HT2 hc2 q1 HMX HVC
            generalize W.setCell ⟨vb, t, none⟩ (.int .i64 mx) = W at E5 m0 m1 s1 s2 HO2 ⊢
            have zl := cell_lt m0
            have zs := cell_lt s1
            dsimp only at zl zs
            go_wp2_with fail
            refine HO2.out.mono ?_
            rintro e w6 ⟨la2, lc2, rfl, _, hE⟩
            replace E5 := E5.trans hE
            replace s1 := hE.cell s1
            replace s2 := hE.cell s2
            have zs := cell_lt s1
            dsimp only at zs
            clear hE m0 m1 zl HO2
            go_wp2
            refine wp_region_heldE 99 (fun w' => w'.cell? ⟨w.heap.size, 0, none⟩ = some (.slice pa N pc) ∧ w'.cell? ⟨w.heap.size, 1, none⟩ = some (.slice na K nc)) (by kernel_rfl) ?_
            have ED : Ext w6 w6.drew := (Ext.refl _).drew
            have hS := And.intro (ED.cell s1) (ED.cell s2)
            replace E5 := E5.trans ED
            clear s1 s2 ED zs
            generalize w6.drew = w6 at hS E5 ⊢
            have s1 := hS.1
            have s2 := hS.2
            have zs := cell_lt s1
            dsimp only at zs
            ((refine eTk 0 ?_); (refine eTk 1 ?_); (refine eTk 2 ?_); (refine eTk 3 ?_); (refine eTk 4 ?_))
            obtain ⟨w7, hr, hcz, hE⟩ := zeros_run w6 K (by omega)
            obtain ⟨Kv, hKv⟩ : ∃ Kv : Value, Kv = .int .i64 (K : Int) := ⟨_, rfl⟩
            rw [← hKv] at hr
            have HR := Lib.hid hr
            have HCZ := Lib.hid hcz
            (refine wpAnyE_one (i := 5) (o := ?_) ?_ (by kernel_rfl) (fun K hK => ?_); rotate_left; (focus ((simp only [List.getElem?_toArray, List.getElem?_cons_succ, List.getElem?_cons_zero]; exact rfl))); refine step_make rfl _ _ 23 rfl Kv Kv (by rw [hKv]; rfl) (by rw [hKv]; rfl) _ _ HR.out ?_; refine hK.out _ _ ?_ (fun hHeld => ?_); rotate_left; clear hK K; (try simp only [Act.put, List.setIfInBounds_toArray, List.set_cons_zero, List.set_cons_succ]))
            rotate_left
            · exact ⟨hE.cell s1, hE.cell s2⟩
            replace E5 := E5.trans hE
            replace s1 := hE.cell s1
            replace s2 := hE.cell s2
            have zs := cell_lt s1
            dsimp only at zs
            clear hE hr hcz HR hKv
            obtain ⟨p0, p1, p2, p3, p4, p5⟩ := HNO.out
            have HO3 := Lib.hid (Order_any (pks := pks) (need := List.replicate K 0) (pa := pa) (pc := pc) (na := some ⟨w6.heap.size, 0, none⟩) (nc := K) (w := w7) ⟨HT.out.pk.ext E5, HCZ.out, HT.out.p1, HT.out.p2, by rw [List.length_replicate]; exact Nat.le_refl _, by unfold maxLen; omega⟩)
            unfold OrdP taskV at HO3
            rw [List.length_replicate, p1, p2, p3, ← HN.out] at HO3
            rw [p3, ← HN.out] at p5
            have HSU : Hid (∀ (a9 : Option Addr) (c9 : Nat) W, CellsI W a9 (orderL pks (List.replicate K 0)) → Calls Tryz.prog 29 #[.slice a9 N c9] W fun e w' => e = .returned (.int .i64 0) ∧ Ext W w') := fun a9 c9 W hc => by
              have h := sumI_any _ a9 c9 W hc (by rw [p3, ← HN.out]; omega) (fun i hi => p5 i (by rw [p3, ← HN.out] at hi; exact hi))
              rw [p3, p4, ← HN.out] at h
              exact h
            generalize orderL pks (List.replicate K 0) = ol3 at HO3 HSU
            clear p0 p1 p2 p3 p4 p5 HCZ
            ((refine ePu 6 ?_))
            (refine wpAnyE_one (i := 7) (o := ?_) ?_ (by kernel_rfl) (fun K hK => ?_); rotate_left; (focus ((simp only [List.getElem?_toArray, List.getElem?_cons_succ, List.getElem?_cons_zero]; exact rfl))); go_simp; go_at_call 13; refine HO3.out.mono ?_; rintro e w8 ⟨la3, lc3, rfl, hc3, hE⟩; go_wp2_with fail; refine hK.out _ _ ?_ (fun hHeld => ?_); rotate_left; clear hK K; (try simp only [Act.put, List.setIfInBounds_toArray, List.set_cons_zero, List.set_cons_succ]))
            rotate_left
            · exact ⟨hE.cell s1, hE.cell s2⟩
            replace E5 := E5.trans hE
            replace s1 := hE.cell s1
            replace s2 := hE.cell s2
            have zs := cell_lt s1
            dsimp only at zs
            have HS3 := Lib.hid (HSU.out la3 lc3 _ hc3)
            clear hE HO3 hc3 HSU hS
            ((refine ePu 8 ?_); (refine ePu 9 ?_); (refine ePu 10 ?_); (refine ePu 11 ?_); (refine ePu 12 ?_); (refine ePu 13 ?_); (refine ePu 14 ?_))
            refine wpAnyE_done (by kernel_rfl) ?_ _
            obtain ⟨rfl, hle⟩ := HF2.out (by first | rfl | trivial)
            have hle2 : ¬ op < op2 := by omega
            go_wp2_with fail
            refine HS3.out.mono ?_
            rintro e w9 ⟨rfl, hE⟩
            replace E5 := E5.trans hE
            clear hE s1 s2 zs HS3
            go_wp2_with fail
            refine (HAW.out _ E5).mono ?_
            rintro e wA ⟨rfl, hE⟩
            go_wp2
            go_ret
            exact ⟨rfl, E5.trans hE⟩
    · have ET : Ext w w3 := E3
      have zT := cell_lt y1
      dsimp only at zT
      clear E3 zz HSP HD
      have hk5 : ((K : Int) == 0) = false := by simp; omega
      have hk4 : (0 : Int) < (K : Int) := by omega
      have hq0 : 0 ≤ z.tmod (K : Int) := Int.tmod_nonneg _ hz0
      have hq1 : z.tmod (K : Int) < (K : Int) := Int.tmod_lt_of_pos _ hk4
      obtain ⟨t, ht⟩ : ∃ t : Nat, z.tmod (K : Int) = (t : Int) := ⟨(z.tmod (K : Int)).toNat, by omega⟩
      have htK : t < K := by omega
      clear hq0 hq1
      go_wp2
      refine wp_key (FewX w need pa na N K pc nc) ?tail2 ?reg2
      case reg2 =>
        intro hQ
        refine wp_region_heldE 99 (fun w' => w'.cell? ⟨w.heap.size, 0, none⟩ = some (.slice pa N pc) ∧ w'.cell? ⟨w.heap.size, 1, none⟩ = some (.slice na K nc)) (by kernel_rfl) ?_
        have ED : Ext w3 w3.drew := (Ext.refl _).drew
        have hS := And.intro (ED.cell y1) (ED.cell y2)
        have E4 := ET.trans ED
        clear y1 y2 ET ED zT
        generalize w3.drew = w4 at hS E4 ⊢
        have s1 := hS.1
        have s2 := hS.2
        have zz := cell_lt s1
        dsimp only at zz
        ((refine eTk 0 ?_); (refine eTk 1 ?_); (refine eTk 2 ?_); (refine eTk 3 ?_))
        clear hS
        refine wpAnyE_two (i := 4) (j := 6) (o := ?_) (p := ?_) (by (simp only [List.getElem?_toArray, List.getElem?_cons_succ, List.getElem?_cons_zero]; exact rfl)) (by (simp only [List.getElem?_toArray, List.getElem?_cons_succ, List.getElem?_cons_zero]; exact rfl)) (by kernel_rfl) (fun K hK => ?_) (fun K hK => ?_)
        · go_simp
          go_at_call 28
          refine (HCN.out _ E4).mono ?_
          rintro e w5 ⟨vb, vc, rfl, hO, hvb, hE⟩
          go_wp2_with fail
          refine hK.out _ _ ⟨hE.cell s1, hE.cell s2⟩ (fun hHeld => ?_)
          clear hK K
          (try simp only [Act.put, List.setIfInBounds_toArray, List.set_cons_zero, List.set_cons_succ])
          have HO := Lib.hid hO
          replace E4 : Ext w w5 := E4.trans hE
          replace s1 := hE.cell s1
          replace s2 := hE.cell s2
          have hwg : w.heap.size < vb := by omega
          have hgs : vb < w5.heap.size := hO.lt rfl
          clear hE hO zz hvb
          ((refine ePu 5 ?_))
          have hw5 := E4.size
          (refine wpAnyE_one (i := 6) (o := ?_) ?_ (by kernel_rfl) (fun K hK => ?_); rotate_left; (focus ((simp only [List.getElem?_toArray, List.getElem?_cons_succ, List.getElem?_cons_zero]; exact rfl))); go_simp; refine hK.out _ _ ?_ (fun hHeld => ?_); rotate_left; clear hK K; (try simp only [Act.put, List.setIfInBounds_toArray, List.set_cons_zero, List.set_cons_succ]))
          rotate_left
          · exact ⟨((Ext.refl w5).alloc _).cell s1, ((Ext.refl w5).alloc _).cell s2⟩
          have EA : Ext w5 (w5.alloc (.cells #[.slice none 0 0, .slice none 0 0] 25)) := (Ext.refl _).alloc _
          have NT := NewT.made w5 25
          obtain ⟨lb, hlb⟩ : ∃ lb, lb = w5.heap.size := ⟨_, rfl⟩
          rw [← hlb] at NT ⊢
          have hlw : w.heap.size < lb := by omega
          have hgl : lb ≠ vb := by omega
          replace E4 : Ext w _ := E4.trans EA
          replace s1 := EA.cell s1
          replace s2 := EA.cell s2
          replace HO := Lib.hid (HO.out.ext EA)
          clear EA hlb hgs hw5
          generalize w5.alloc (.cells #[.slice none 0 0, .slice none 0 0] 25) = w7 at NT E4 s1 s2 HO hHeld ⊢
          have hln : w.heap.size ≠ lb := by omega
          have m0 := NT.c0
          have m1 := NT.c1
          have k0 := NT.f0
          have k1 := NT.f1
          (refine wpAnyE_one (i := 7) (o := ?_) ?_ (by kernel_rfl) (fun K hK => ?_); rotate_left; (focus ((simp only [List.getElem?_toArray, List.getElem?_cons_succ, List.getElem?_cons_zero]; exact rfl))); go_simp; refine hK.out _ _ ?_ (fun hHeld => ?_); rotate_left; clear hK K; (try simp only [Act.put, List.setIfInBounds_toArray, List.set_cons_zero, List.set_cons_succ]))
          rotate_left
          · exact ⟨by rw [World.cell?_setCell_other _ _ _ _ (fun e => by cases e), World.cell?_setCell_other _ _ _ _ (fun e => by cases e; exact hln rfl)]; exact s1, by rw [World.cell?_setCell_other _ _ _ _ (fun e => by cases e; exact hln rfl), World.cell?_setCell_other _ _ _ _ (fun e => by cases e)]; exact s2⟩
          refine wpAnyE_done (by kernel_rfl) ?_ _
          refine hQ _ _ ⟨lb, vb, vc, ?_, Below.setCell (p := ⟨lb, 1, none⟩) (Below.setCell (p := ⟨lb, 0, none⟩) E4 (Nat.le_of_lt hlw) _) (Nat.le_of_lt hlw) _, ownsI_setO (ownsI_setO HO.out hgl 0 _) hgl 1 _, hwg, hgl, ?_, ?_, ?_, ?_⟩
          · simp only [Act.put, List.setIfInBounds_toArray, List.set_cons_zero, List.set_cons_succ]
          · rw [World.cell?_setCell_other _ _ _ _ (fun e => by cases e)]
            exact World.cell?_setCell_same _ _ _ m0
          · exact World.cell?_setCell_same _ _ _ ((World.cell?_setCell_other _ _ _ _ (fun e => by cases e)).trans m1)
          · rw [World.cell?_setCell_other _ _ _ _ (fun e => by cases e), World.cell?_setCell_other _ _ _ _ (fun e => by cases e; exact hln rfl)]
            exact s1
          · rw [World.cell?_setCell_other _ _ _ _ (fun e => by cases e; exact hln rfl), World.cell?_setCell_other _ _ _ _ (fun e => by cases e)]
            exact s2
        · have EA : Ext w4 (w4.alloc (.cells #[.slice none 0 0, .slice none 0 0] 25)) := (Ext.refl _).alloc _
          have NT := NewT.made w4 25
          obtain ⟨lb, hlb⟩ : ∃ lb, lb = w4.heap.size := ⟨_, rfl⟩
          go_simp
          refine hK.out _ _ ⟨EA.cell s1, EA.cell s2⟩ (fun hHeld => ?_)
          clear hK K
          (try simp only [Act.put, List.setIfInBounds_toArray, List.set_cons_zero, List.set_cons_succ])
          rw [← hlb] at NT ⊢
          replace E4 := E4.trans EA
          replace s1 := EA.cell s1
          replace s2 := EA.cell s2
          have hlw : w.heap.size < lb := by omega
          have zw := cell_lt NT.c0
          dsimp only at zw
          clear EA hHeld zz hlb
          generalize w4.alloc (.cells #[.slice none 0 0, .slice none 0 0] 25) = w4 at NT E4 s1 s2 zw ⊢
          (refine wpAnyE_one (i := 4) (o := ?_) ?_ (by kernel_rfl) (fun K hK => ?_); rotate_left; (focus ((simp only [List.getElem?_toArray, List.getElem?_cons_succ, List.getElem?_cons_zero]; exact rfl))); go_simp; go_at_call 28; refine (HCN.out _ E4).mono ?_; rintro e w5 ⟨vb, vc, rfl, hO, hvb, hE⟩; go_wp2_with fail; refine hK.out _ _ ?_ (fun hHeld => ?_); rotate_left; clear hK K; (try simp only [Act.put, List.setIfInBounds_toArray, List.set_cons_zero, List.set_cons_succ]))
          rotate_left
          · exact ⟨hE.cell s1, hE.cell s2⟩
          have HO := Lib.hid hO
          replace E4 := E4.trans hE
          replace s1 := hE.cell s1
          replace s2 := hE.cell s2
          replace NT := NT.ext hE
          have hwg : w.heap.size < vb := by omega
          have hgl : lb ≠ vb := by omega
          clear hE hO zw hvb
          ((refine ePu 5 ?_))
          have hln : w.heap.size ≠ lb := by omega
          have m0 := NT.c0
          have m1 := NT.c1
          have k0 := NT.f0
          have k1 := NT.f1
          (refine wpAnyE_one (i := 7) (o := ?_) ?_ (by kernel_rfl) (fun K hK => ?_); rotate_left; (focus ((simp only [List.getElem?_toArray, List.getElem?_cons_succ, List.getElem?_cons_zero]; exact rfl))); go_simp; refine hK.out _ _ ?_ (fun hHeld => ?_); rotate_left; clear hK K; (try simp only [Act.put, List.setIfInBounds_toArray, List.set_cons_zero, List.set_cons_succ]))
          rotate_left
          · exact ⟨by rw [World.cell?_setCell_other _ _ _ _ (fun e => by cases e), World.cell?_setCell_other _ _ _ _ (fun e => by cases e; exact hln rfl)]; exact s1, by rw [World.cell?_setCell_other _ _ _ _ (fun e => by cases e; exact hln rfl), World.cell?_setCell_other _ _ _ _ (fun e => by cases e)]; exact s2⟩
          refine wpAnyE_done (by kernel_rfl) ?_ _
          refine hQ _ _ ⟨lb, vb, vc, ?_, Below.setCell (p := ⟨lb, 1, none⟩) (Below.setCell (p := ⟨lb, 0, none⟩) E4 (Nat.le_of_lt hlw) _) (Nat.le_of_lt hlw) _, ownsI_setO (ownsI_setO HO.out hgl 0 _) hgl 1 _, hwg, hgl, ?_, ?_, ?_, ?_⟩
          · simp only [Act.put, List.setIfInBounds_toArray, List.set_cons_zero, List.set_cons_succ]
          · rw [World.cell?_setCell_other _ _ _ _ (fun e => by cases e)]
            exact World.cell?_setCell_same _ _ _ m0
          · exact World.cell?_setCell_same _ _ _ ((World.cell?_setCell_other _ _ _ _ (fun e => by cases e)).trans m1)
          · rw [World.cell?_setCell_other _ _ _ _ (fun e => by cases e), World.cell?_setCell_other _ _ _ _ (fun e => by cases e; exact hln rfl)]
            exact s1
          · rw [World.cell?_setCell_other _ _ _ _ (fun e => by cases e; exact hln rfl), World.cell?_setCell_other _ _ _ _ (fun e => by cases e)]
            exact s2
      case tail2 =>
        clear y1 y2 ET zT
        rintro a W ⟨lb, vb, vc, rfl, E4, hO, hwv, hlv, m0, m1, s1, s2⟩
        simp only [Act.put, List.setIfInBounds_toArray, List.set_cons_zero, List.set_cons_succ]
        obtain ⟨d1, d2⟩ := hO.at (i := t) (by rw [← HK.out]; exact htK)
        have HVC : Hid (K ≤ vc ∧ vc ≤ maxLen) := by
          obtain ⟨_, _, hv9, _, hv1, hv2⟩ := hO.full
          obtain ⟨_, e8, e9⟩ := Value.slice.inj hv9
          rw [← e8, ← e9] at hv1
          rw [← e9] at hv2
          exact ⟨hv1, hv2⟩
        have hxb := HNB.out t htK
        have HFM := Lib.hid (fun mx h0 h1 => fewer_of (mx := mx) (t := t) (need := need) (by rw [← HK.out]; exact htK) HSE.out.nd h0 h1)
        generalize need.getD t 0 = x at d1 hxb HFM
        have q1 : IntKind.i64.wrap (x - 1) = x - 1 := IntWalk.i64_in _ (by omega)
        obtain ⟨mx, hmx⟩ : ∃ mx, max 0 (x - 1) = mx := ⟨_, rfl⟩
        have hmx0 : 0 ≤ mx ∧ mx ≤ x := by omega
        obtain ⟨n1, n2, n3⟩ := HFM.out mx hmx0.1 hmx0.2
        have HMX := Lib.hid hmx
        have HOS := Lib.hid hO
        have zl := cell_lt m0
        have zv := cell_lt d1
        have zs := cell_lt s1
        dsimp only at zl zv zs
        clear hmx hmx0 HFM hO
        go_wp2
        refine wp_region_heldE 11 (fun w' => w'.cell? ⟨lb, 1, none⟩ = some (.slice (some ⟨vb, 0, none⟩) K vc) ∧ w'.cell? ⟨vb, t, none⟩ = some (.int .i64 x)) (by kernel_rfl) ?_
        have ED : Ext W W.drew := (Ext.refl _).drew
        have hS : W.drew.cell? ⟨lb, 1, none⟩ = some (.slice (some ⟨vb, 0, none⟩) K vc) ∧ W.drew.cell? ⟨vb, t, none⟩ = some (.int .i64 x) := ⟨m1, d1⟩
        replace E4 := E4.trans ED
        replace m0 := ED.cell m0
        replace m1 := ED.cell m1
        replace d1 := ED.cell d1
        replace s1 := ED.cell s1
        replace s2 := ED.cell s2
        replace HOS := Lib.hid (HOS.out.ext ED)
        have d3 : W.drew.frozen? ⟨vb, t, none⟩ = false := d2
        clear ED d2 zl zv zs
        generalize W.drew = W at hS E4 m0 m1 d1 s1 s2 HOS d3 ⊢
        ((refine eTk 0 ?_); (refine eTk 1 ?_); (refine eTk 2 ?_); (refine eTk 3 ?_); (refine eTk 4 ?_); (refine eTk 5 ?_); (refine eTk 6 ?_); (refine eTk 7 ?_); (refine eTk 8 ?_))
        (refine wpAnyE_pure (v := .int .i64 mx) (i := 9) (oi := ?_) ?_ (by kernel_rfl) ?_ ?_ ?_ ?_; rotate_left; (focus ((simp only [List.getElem?_toArray, List.getElem?_cons_succ, List.getElem?_cons_zero]; exact rfl))); (focus (exact fun _ _ _ h => h)); (focus (refine Or.inl ⟨by rfl, ?_⟩; intro w hSw; clear hSw; go_simp; exact HMX.out)); (focus (first | exact (fun _ => by assumption) | (intro hlst; exact absurd hlst (by kernel_rfl)) | (intro hlst; cases hlst))); (try simp only [Act.put, List.setIfInBounds_toArray, List.set_cons_zero, List.set_cons_succ]))
        (refine eTk 10 ?_)
        (refine wpAnyE_free (i := 11) (o := ?_) ?_ (by kernel_rfl) (by kernel_rfl) (fun K hK => ?_); rotate_left; (focus ((simp only [List.getElem?_toArray, List.getElem?_cons_succ, List.getElem?_cons_zero]; exact rfl))); go_simp; refine hK.out _ _ ?_; clear hK K; (try simp only [Act.put, List.setIfInBounds_toArray, List.set_cons_zero, List.set_cons_succ]))
        refine wpAnyE_done (by kernel_rfl) ?_ _
        have hvw : w.heap.size ≠ vb := by omega
        have hc2 : ∀ b o, b ≠ vb → (W.setCell ⟨vb, t, none⟩ (.int .i64 mx)).cell? ⟨b, o, none⟩ = W.cell? ⟨b, o, none⟩ := fun b o hb => World.cell?_setCell_other _ _ _ _ (fun e => by cases e; exact hb rfl)
        have E5 : Ext w (W.setCell ⟨vb, t, none⟩ (.int .i64 mx)) := Below.setCell (p := ⟨vb, t, none⟩) E4 (Nat.le_of_lt hwv) _
        replace m0 := (hc2 lb 0 hlv).trans m0
        replace m1 := (hc2 lb 1 hlv).trans m1
        replace s1 := (hc2 _ 0 hvw).trans s1
        replace s2 := (hc2 _ 1 hvw).trans s2
        have hOS := HOS.out.set t mx
        have HT2 : Hid (TaskG (W.setCell ⟨vb, t, none⟩ (.int .i64 mx)) pks (need.set t mx) pa pc (some ⟨vb, 0, none⟩) vc) := ⟨HT.out.pk.ext E5, by
          obtain ⟨_, _, hv9, hc9, _⟩ := hOS.full
          rw [(Value.slice.inj hv9).1]
          exact hc9, HT.out.p1, HT.out.p2, by rw [n1, ← HK.out]; exact HVC.out.1, HVC.out.2⟩
        have HO2 := Lib.hid (Order_any HT2.out)
        unfold OrdP taskV at HO2
        rw [n1, ← HK.out, ← HN.out] at HO2
        have HF2 := Lib.hid (HFW.out HSE.out _ n1 n2 n3)
        generalize orderL pks (need.set t mx) = ol2 at HO2
        generalize orderP pks (need.set t mx) = op2 at HO2 HF2
        generalize orderE pks (need.set t mx) = oe2 at HO2 HF2
        clear hOS HOS d1 d3 hS E4 n1 n2 n3 HT2 hc2 q1 HMX HVC
        generalize W.setCell ⟨vb, t, none⟩ (.int .i64 mx) = W at E5 m0 m1 s1 s2 HO2 ⊢
        have zl := cell_lt m0
        have zs := cell_lt s1
        dsimp only at zl zs
        go_wp2_with fail
        refine HO2.out.mono ?_
        rintro e w6 ⟨la2, lc2, rfl, _, hE⟩
        replace E5 := E5.trans hE
        replace s1 := hE.cell s1
        replace s2 := hE.cell s2
        have zs := cell_lt s1
        dsimp only at zs
        clear hE m0 m1 zl HO2
        go_wp2
        refine wp_region_heldE 99 (fun w' => w'.cell? ⟨w.heap.size, 0, none⟩ = some (.slice pa N pc) ∧ w'.cell? ⟨w.heap.size, 1, none⟩ = some (.slice na K nc)) (by kernel_rfl) ?_
        have ED : Ext w6 w6.drew := (Ext.refl _).drew
        have hS := And.intro (ED.cell s1) (ED.cell s2)
        replace E5 := E5.trans ED
        clear s1 s2 ED zs
        generalize w6.drew = w6 at hS E5 ⊢
        have s1 := hS.1
        have s2 := hS.2
        have zs := cell_lt s1
        dsimp only at zs
        ((refine eTk 0 ?_); (refine eTk 1 ?_); (refine eTk 2 ?_); (refine eTk 3 ?_); (refine eTk 4 ?_))
        obtain ⟨w7, hr, hcz, hE⟩ := zeros_run w6 K (by omega)
        obtain ⟨Kv, hKv⟩ : ∃ Kv : Value, Kv = .int .i64 (K : Int) := ⟨_, rfl⟩
        rw [← hKv] at hr
        have HR := Lib.hid hr
        have HCZ := Lib.hid hcz
        (refine wpAnyE_one (i := 5) (o := ?_) ?_ (by kernel_rfl) (fun K hK => ?_); rotate_left; (focus ((simp only [List.getElem?_toArray, List.getElem?_cons_succ, List.getElem?_cons_zero]; exact rfl))); refine step_make rfl _ _ 23 rfl Kv Kv (by rw [hKv]; rfl) (by rw [hKv]; rfl) _ _ HR.out ?_; refine hK.out _ _ ?_ (fun hHeld => ?_); rotate_left; clear hK K; (try simp only [Act.put, List.setIfInBounds_toArray, List.set_cons_zero, List.set_cons_succ]))
        rotate_left
        · exact ⟨hE.cell s1, hE.cell s2⟩
        replace E5 := E5.trans hE
        replace s1 := hE.cell s1
        replace s2 := hE.cell s2
        have zs := cell_lt s1
        dsimp only at zs
        clear hE hr hcz HR hKv
        obtain ⟨p0, p1, p2, p3, p4, p5⟩ := HNO.out
        have HO3 := Lib.hid (Order_any (pks := pks) (need := List.replicate K 0) (pa := pa) (pc := pc) (na := some ⟨w6.heap.size, 0, none⟩) (nc := K) (w := w7) ⟨HT.out.pk.ext E5, HCZ.out, HT.out.p1, HT.out.p2, by rw [List.length_replicate]; exact Nat.le_refl _, by unfold maxLen; omega⟩)
        unfold OrdP taskV at HO3
        rw [List.length_replicate, p1, p2, p3, ← HN.out] at HO3
        rw [p3, ← HN.out] at p5
        have HSU : Hid (∀ (a9 : Option Addr) (c9 : Nat) W, CellsI W a9 (orderL pks (List.replicate K 0)) → Calls Tryz.prog 29 #[.slice a9 N c9] W fun e w' => e = .returned (.int .i64 0) ∧ Ext W w') := fun a9 c9 W hc => by
          have h := sumI_any _ a9 c9 W hc (by rw [p3, ← HN.out]; omega) (fun i hi => p5 i (by rw [p3, ← HN.out] at hi; exact hi))
          rw [p3, p4, ← HN.out] at h
          exact h
        generalize orderL pks (List.replicate K 0) = ol3 at HO3 HSU
        clear p0 p1 p2 p3 p4 p5 HCZ
        ((refine ePu 6 ?_))
        (refine wpAnyE_one (i := 7) (o := ?_) ?_ (by kernel_rfl) (fun K hK => ?_); rotate_left; (focus ((simp only [List.getElem?_toArray, List.getElem?_cons_succ, List.getElem?_cons_zero]; exact rfl))); go_simp; go_at_call 13; refine HO3.out.mono ?_; rintro e w8 ⟨la3, lc3, rfl, hc3, hE⟩; go_wp2_with fail; refine hK.out _ _ ?_ (fun hHeld => ?_); rotate_left; clear hK K; (try simp only [Act.put, List.setIfInBounds_toArray, List.set_cons_zero, List.set_cons_succ]))
        rotate_left
        · exact ⟨hE.cell s1, hE.cell s2⟩
        replace E5 := E5.trans hE
        replace s1 := hE.cell s1
        replace s2 := hE.cell s2
        have zs := cell_lt s1
        dsimp only at zs
        have HS3 := Lib.hid (HSU.out la3 lc3 _ hc3)
        clear hE HO3 hc3 HSU hS
        ((refine ePu 8 ?_); (refine ePu 9 ?_); (refine ePu 10 ?_); (refine ePu 11 ?_); (refine ePu 12 ?_); (refine ePu 13 ?_); (refine ePu 14 ?_))
        refine wpAnyE_done (by kernel_rfl) ?_ _
        obtain ⟨rfl, hle⟩ := HF2.out (by first | rfl | trivial)
        have hle2 : ¬ op < op2 := by omega
        go_wp2_with fail
        refine HS3.out.mono ?_
        rintro e w9 ⟨rfl, hE⟩
        replace E5 := E5.trans hE
        clear hE s1 s2 zs HS3
        go_wp2_with fail
        refine (HAW.out _ E5).mono ?_
        rintro e wA ⟨rfl, hE⟩
        go_wp2
        go_ret
        exact ⟨rfl, E5.trans hE⟩
  · obtain ⟨k1, k2, k3⟩ := HK1.out
    have hdl : dl.length ≤ 5 := Nat.le_trans HDL.out k3
    by_cases hd0 : dl.length = 0
    rotate_left
    · obtain ⟨D, hD⟩ : ∃ D, D = dl.length := ⟨_, rfl⟩
      rw [← hD] at hd0 hdl ⊢
      have k4 : (0 : Int) < (D : Int) := by omega
      have k5 : ((D : Int) == 0) = false := by simp; omega
      have hq0 : 0 ≤ z.tmod (D : Int) := Int.tmod_nonneg _ hz0
      have hq1 : z.tmod (D : Int) < (D : Int) := Int.tmod_lt_of_pos _ k4
      obtain ⟨q, hq⟩ : ∃ q : Nat, z.tmod (D : Int) = (q : Int) := ⟨(z.tmod (D : Int)).toNat, by omega⟩
      have hqD : q < D := by omega
      obtain ⟨db, doff, rfl, cd⟩ := HD.out q (by rw [← hD]; exact hqD)
      obtain ⟨i, hi, hSF⟩ := HSP.out HSE.out (dl.getD q 0) (getD_mem (by rw [← hD]; exact hqD))
      rw [hi] at cd
      have hiN := hSF.lt
      have HSF := Lib.hid hSF.less
      clear hSF hi HSP HD hq0 hq1 hD
      have zd := cell_lt cd
      dsimp only at zd
      have k6 : ¬ (i : Int) < 0 := by omega
      have k7 : ¬ (N : Int) ≤ (i : Int) := by omega
      go_wp2
      have k8 : decide ((i : Int) < 0) = false := by simp
      have k9 : decide (N ≤ i) = false := by simp; omega
      simp only [k8, k9, Bool.or_false, Bool.or_self]
      clear k8 k9
      have q9 : IntKind.i64.wrap ((i : Int) + 1) = (i : Int) + 1 := IntWalk.i64_in _ (by omega)
      refine wp_key (LessX w ((flatG f pks N).take (i * 3) ++ (flatG f pks N).drop ((i + 1) * 3)) pa na N K pc nc i) ?tail ?reg
      case reg =>
        intro hQ
        refine wp_region_heldE 99 (fun w' => w'.cell? ⟨w.heap.size, 0, none⟩ = some (.slice pa N pc) ∧ w'.cell? ⟨w.heap.size, 1, none⟩ = some (.slice na K nc)) (by kernel_rfl) ?_
        have ED : Ext w3 w3.drew := (Ext.refl _).drew
        have hS := And.intro (ED.cell y1) (ED.cell y2)
        have E4 := E3.trans ED
        clear y1 y2 E3 ED zz zd cd
        generalize w3.drew = w4 at hS E4 ⊢
        have s1 := hS.1
        have s2 := hS.2
        have zz := cell_lt s1
        dsimp only at zz
        ((refine eTk 0 ?_); (refine eTk 1 ?_); (refine eTk 3 ?_); (refine eTk 4 ?_); (refine eTk 5 ?_); (refine eTk 7 ?_); (refine eTk 8 ?_))
        clear hS
        refine wpAnyE_two (i := 2) (j := 10) (o := ?_) (p := ?_) (by (simp only [List.getElem?_toArray, List.getElem?_cons_succ, List.getElem?_cons_zero]; exact rfl)) (by (simp only [List.getElem?_toArray, List.getElem?_cons_succ, List.getElem?_cons_zero]; exact rfl)) (by kernel_rfl) (fun K hK => ?_) (fun K hK => ?_)
        · go_simp
          go_at_call 35
          refine (HCP.out _ E4 (by omega) (by omega)).mono ?_
          rintro e w5 ⟨g, cap, rfl, hgw, hcap, hcm, hRC, hE⟩
          go_wp2_with fail
          refine hK.out _ _ ⟨hE.cell s1, hE.cell s2⟩ (fun hHeld => ?_)
          clear hK K
          (try simp only [Act.put, List.setIfInBounds_toArray, List.set_cons_zero, List.set_cons_succ])
          have HRS := Lib.hid hRC
          have HCC := Lib.hid (And.intro hcap hcm)
          replace E4 := E4.trans hE
          replace s1 := hE.cell s1
          replace s2 := hE.cell s2
          have hwg : w.heap.size < g := by omega
          clear hcap hcm hRC HCP
          clear zz hE hgw
          have hwn : w.heap.size ≠ g := by omega
          have hgs : g < w5.heap.size := cell_lt (HRS.out 0 _ (flatG_get f pks N 0 (by omega)).1).1
          refine wpAnyE_two (i := 6) (j := 10) (o := ?_) (p := ?_) (by (simp only [List.getElem?_toArray, List.getElem?_cons_succ, List.getElem?_cons_zero]; exact rfl)) (by (simp only [List.getElem?_toArray, List.getElem?_cons_succ, List.getElem?_cons_zero]; exact rfl)) (by kernel_rfl) (fun K hK => ?_) (fun K hK => ?_)
          · go_simp
            go_at_call 34
            refine (HLP.out _ g cap i hiN (by omega) HCC.out.1 HCC.out.2 HRS.out).mono ?_
            rintro e w6 ⟨rfl, hRC, hB, hsc, hsf⟩
            go_wp2_with fail
            refine hK.out _ _ ⟨(hsc ⟨w.heap.size, 0, none⟩ hwn).trans s1, (hsc ⟨w.heap.size, 1, none⟩ hwn).trans s2⟩ (fun hHeld => ?_)
            clear hK K
            (try simp only [Act.put, List.setIfInBounds_toArray, List.set_cons_zero, List.set_cons_succ])
            replace HRS := Lib.hid hRC
            replace E4 : Ext w w6 := Below.trans E4 (hB.mono (Nat.le_of_lt hwg))
            replace s1 := (hsc ⟨w.heap.size, 0, none⟩ hwn).trans s1
            replace s2 := (hsc ⟨w.heap.size, 1, none⟩ hwn).trans s2
            have hgs6 : g < w6.heap.size := Nat.lt_of_lt_of_le hgs hB.size
            have hw6 := E4.size
            clear hB hsc hsf HLP
            ((refine ePu 9 ?_))
            clear hHeld
            (refine wpAnyE_one (i := 10) (o := ?_) ?_ (by kernel_rfl) (fun K hK => ?_); rotate_left; (focus ((simp only [List.getElem?_toArray, List.getElem?_cons_succ, List.getElem?_cons_zero]; exact rfl))); go_simp; refine hK.out _ _ ?_ (fun hHeld => ?_); rotate_left; clear hK K; (try simp only [Act.put, List.setIfInBounds_toArray, List.set_cons_zero, List.set_cons_succ]))
            rotate_left
            · exact ⟨((Ext.refl w6).alloc _).cell s1, ((Ext.refl w6).alloc _).cell s2⟩
            have EA : Ext w6 (w6.alloc (.cells #[.slice none 0 0, .slice none 0 0] 25)) := (Ext.refl _).alloc _
            have NT := NewT.made w6 25
            obtain ⟨lb, hlb⟩ : ∃ lb, lb = w6.heap.size := ⟨_, rfl⟩
            rw [← hlb] at NT ⊢
            have hlw : w.heap.size < lb := by omega
            have hgl : g ≠ lb := by omega
            replace E4 := E4.trans EA
            replace s1 := EA.cell s1
            replace s2 := EA.cell s2
            replace HRS := Lib.hid (HRS.out.ext EA)
            clear EA hlb hgs6 hw6 hgs
            generalize w6.alloc (.cells #[.slice none 0 0, .slice none 0 0] 25) = w7 at NT E4 s1 s2 HRS hHeld ⊢
            have hln : w.heap.size ≠ lb := by omega
            have m0 := NT.c0
            have m1 := NT.c1
            have k0 := NT.f0
            have k1 := NT.f1
            (refine wpAnyE_one (i := 11) (o := ?_) ?_ (by kernel_rfl) (fun K hK => ?_); rotate_left; (focus ((simp only [List.getElem?_toArray, List.getElem?_cons_succ, List.getElem?_cons_zero]; exact rfl))); go_simp; refine hK.out _ _ ?_ (fun hHeld => ?_); rotate_left; clear hK K; (try simp only [Act.put, List.setIfInBounds_toArray, List.set_cons_zero, List.set_cons_succ]))
            rotate_left
            · exact ⟨by rw [World.cell?_setCell_other _ _ _ _ (fun e => by cases e), World.cell?_setCell_other _ _ _ _ (fun e => by cases e; exact hln rfl)]; exact s1, by rw [World.cell?_setCell_other _ _ _ _ (fun e => by cases e; exact hln rfl), World.cell?_setCell_other _ _ _ _ (fun e => by cases e)]; exact s2⟩
            refine wpAnyE_done (by kernel_rfl) ?_ _
            refine hQ _ _ ⟨lb, g, cap, ?_, Below.setCell (p := ⟨lb, 1, none⟩) (Below.setCell (p := ⟨lb, 0, none⟩) E4 (Nat.le_of_lt hlw) _) (Nat.le_of_lt hlw) _, HCC.out.1, HCC.out.2, (HRS.out.set hgl 0 _).set hgl 1 _, ?_, ?_, ?_, ?_⟩
            · simp only [Act.put, List.setIfInBounds_toArray, List.set_cons_zero, List.set_cons_succ]
            · rw [World.cell?_setCell_other _ _ _ _ (fun e => by cases e)]
              exact World.cell?_setCell_same _ _ _ m0
            · exact World.cell?_setCell_same _ _ _ ((World.cell?_setCell_other _ _ _ _ (fun e => by cases e)).trans m1)
            · rw [World.cell?_setCell_other _ _ _ _ (fun e => by cases e), World.cell?_setCell_other _ _ _ _ (fun e => by cases e; exact hln rfl)]
              exact s1
            · rw [World.cell?_setCell_other _ _ _ _ (fun e => by cases e; exact hln rfl), World.cell?_setCell_other _ _ _ _ (fun e => by cases e)]
              exact s2
          · have EA : Ext w5 (w5.alloc (.cells #[.slice none 0 0, .slice none 0 0] 25)) := (Ext.refl _).alloc _
            have NT := NewT.made w5 25
            obtain ⟨lb, hlb⟩ : ∃ lb, lb = w5.heap.size := ⟨_, rfl⟩
            go_simp
            refine hK.out _ _ ⟨EA.cell s1, EA.cell s2⟩ (fun hHeld => ?_)
            clear hK K
            (try simp only [Act.put, List.setIfInBounds_toArray, List.set_cons_zero, List.set_cons_succ])
            rw [← hlb] at NT ⊢
            replace E4 := E4.trans EA
            replace s1 := EA.cell s1
            replace s2 := EA.cell s2
            have hlw : w.heap.size < lb := by omega
            have hgl : g ≠ lb := by omega
            replace HRS := Lib.hid (HRS.out.ext EA)
            clear EA hHeld hlb
            generalize w5.alloc (.cells #[.slice none 0 0, .slice none 0 0] 25) = w5 at NT E4 s1 s2 HRS ⊢
            (refine wpAnyE_one (i := 6) (o := ?_) ?_ (by kernel_rfl) (fun K hK => ?_); rotate_left; (focus ((simp only [List.getElem?_toArray, List.getElem?_cons_succ, List.getElem?_cons_zero]; exact rfl))); go_simp; go_at_call 34; refine (HLP.out _ g cap i hiN (by omega) HCC.out.1 HCC.out.2 HRS.out).mono ?_; rintro e w6 ⟨rfl, hRC, hB, hsc, hsf⟩; go_wp2_with fail; refine hK.out _ _ ?_ (fun hHeld => ?_); rotate_left; clear hK K; (try simp only [Act.put, List.setIfInBounds_toArray, List.set_cons_zero, List.set_cons_succ]))
            rotate_left
            · exact ⟨(hsc ⟨w.heap.size, 0, none⟩ hwn).trans s1, (hsc ⟨w.heap.size, 1, none⟩ hwn).trans s2⟩
            replace HRS := Lib.hid hRC
            replace E4 : Ext w w6 := Below.trans E4 (hB.mono (Nat.le_of_lt hwg))
            replace s1 := (hsc ⟨w.heap.size, 0, none⟩ hwn).trans s1
            replace s2 := (hsc ⟨w.heap.size, 1, none⟩ hwn).trans s2
            replace NT := NT.same hgl.symm hsc hsf
            clear hB hsc hsf HLP
            ((refine ePu 9 ?_))
            have hln : w.heap.size ≠ lb := by omega
            have m0 := NT.c0
            have m1 := NT.c1
            have k0 := NT.f0
            have k1 := NT.f1
            (refine wpAnyE_one (i := 11) (o := ?_) ?_ (by kernel_rfl) (fun K hK => ?_); rotate_left; (focus ((simp only [List.getElem?_toArray, List.getElem?_cons_succ, List.getElem?_cons_zero]; exact rfl))); go_simp; refine hK.out _ _ ?_ (fun hHeld => ?_); rotate_left; clear hK K; (try simp only [Act.put, List.setIfInBounds_toArray, List.set_cons_zero, List.set_cons_succ]))
            rotate_left
            · exact ⟨by rw [World.cell?_setCell_other _ _ _ _ (fun e => by cases e), World.cell?_setCell_other _ _ _ _ (fun e => by cases e; exact hln rfl)]; exact s1, by rw [World.cell?_setCell_other _ _ _ _ (fun e => by cases e; exact hln rfl), World.cell?_setCell_other _ _ _ _ (fun e => by cases e)]; exact s2⟩
            refine wpAnyE_done (by kernel_rfl) ?_ _
            refine hQ _ _ ⟨lb, g, cap, ?_, Below.setCell (p := ⟨lb, 1, none⟩) (Below.setCell (p := ⟨lb, 0, none⟩) E4 (Nat.le_of_lt hlw) _) (Nat.le_of_lt hlw) _, HCC.out.1, HCC.out.2, (HRS.out.set hgl 0 _).set hgl 1 _, ?_, ?_, ?_, ?_⟩
            · simp only [Act.put, List.setIfInBounds_toArray, List.set_cons_zero, List.set_cons_succ]
            · rw [World.cell?_setCell_other _ _ _ _ (fun e => by cases e)]
              exact World.cell?_setCell_same _ _ _ m0
            · exact World.cell?_setCell_same _ _ _ ((World.cell?_setCell_other _ _ _ _ (fun e => by cases e)).trans m1)
            · rw [World.cell?_setCell_other _ _ _ _ (fun e => by cases e), World.cell?_setCell_other _ _ _ _ (fun e => by cases e; exact hln rfl)]
              exact s1
            · rw [World.cell?_setCell_other _ _ _ _ (fun e => by cases e; exact hln rfl), World.cell?_setCell_other _ _ _ _ (fun e => by cases e)]
              exact s2
        · have EA : Ext w4 (w4.alloc (.cells #[.slice none 0 0, .slice none 0 0] 25)) := (Ext.refl _).alloc _
          have NT := NewT.made w4 25
          obtain ⟨lb, hlb⟩ : ∃ lb, lb = w4.heap.size := ⟨_, rfl⟩
          go_simp
          refine hK.out _ _ ⟨EA.cell s1, EA.cell s2⟩ (fun hHeld => ?_)
          clear hK K
          (try simp only [Act.put, List.setIfInBounds_toArray, List.set_cons_zero, List.set_cons_succ])
          rw [← hlb] at NT ⊢
          replace E4 := E4.trans EA
          replace s1 := EA.cell s1
          replace s2 := EA.cell s2
          have hlw : w.heap.size < lb := by omega
          have zw := cell_lt NT.c0
          dsimp only at zw
          clear EA hHeld zz hlb
          generalize w4.alloc (.cells #[.slice none 0 0, .slice none 0 0] 25) = w4 at NT E4 s1 s2 zw ⊢
          have zz := cell_lt s1
          dsimp only at zz
          (refine wpAnyE_one (i := 2) (o := ?_) ?_ (by kernel_rfl) (fun K hK => ?_); rotate_left; (focus ((simp only [List.getElem?_toArray, List.getElem?_cons_succ, List.getElem?_cons_zero]; exact rfl))); go_simp; go_at_call 35; refine (HCP.out _ E4 (by omega) (by omega)).mono ?_; rintro e w5 ⟨g, cap, rfl, hgw, hcap, hcm, hRC, hE⟩; go_wp2_with fail; refine hK.out _ _ ?_ (fun hHeld => ?_); rotate_left; clear hK K; (try simp only [Act.put, List.setIfInBounds_toArray, List.set_cons_zero, List.set_cons_succ]))
          rotate_left
          · exact ⟨hE.cell s1, hE.cell s2⟩
          have HRS := Lib.hid hRC
          have HCC := Lib.hid (And.intro hcap hcm)
          replace E4 := E4.trans hE
          replace s1 := hE.cell s1
          replace s2 := hE.cell s2
          have hwg : w.heap.size < g := by omega
          clear hcap hcm hRC HCP
          have hwn : w.heap.size ≠ g := by omega
          have hgl : g ≠ lb := by omega
          replace NT := NT.ext hE
          clear zz zw hE hgw hHeld
          (refine wpAnyE_one (i := 6) (o := ?_) ?_ (by kernel_rfl) (fun K hK => ?_); rotate_left; (focus ((simp only [List.getElem?_toArray, List.getElem?_cons_succ, List.getElem?_cons_zero]; exact rfl))); go_simp; go_at_call 34; refine (HLP.out _ g cap i hiN (by omega) HCC.out.1 HCC.out.2 HRS.out).mono ?_; rintro e w6 ⟨rfl, hRC, hB, hsc, hsf⟩; go_wp2_with fail; refine hK.out _ _ ?_ (fun hHeld => ?_); rotate_left; clear hK K; (try simp only [Act.put, List.setIfInBounds_toArray, List.set_cons_zero, List.set_cons_succ]))
          rotate_left
          · exact ⟨(hsc ⟨w.heap.size, 0, none⟩ hwn).trans s1, (hsc ⟨w.heap.size, 1, none⟩ hwn).trans s2⟩
          replace HRS := Lib.hid hRC
          replace E4 : Ext w w6 := Below.trans E4 (hB.mono (Nat.le_of_lt hwg))
          replace s1 := (hsc ⟨w.heap.size, 0, none⟩ hwn).trans s1
          replace s2 := (hsc ⟨w.heap.size, 1, none⟩ hwn).trans s2
          replace NT := NT.same hgl.symm hsc hsf
          clear hB hsc hsf HLP
          ((refine ePu 9 ?_))
          have hln : w.heap.size ≠ lb := by omega
          have m0 := NT.c0
          have m1 := NT.c1
          have k0 := NT.f0
          have k1 := NT.f1
          (refine wpAnyE_one (i := 11) (o := ?_) ?_ (by kernel_rfl) (fun K hK => ?_); rotate_left; (focus ((simp only [List.getElem?_toArray, List.getElem?_cons_succ, List.getElem?_cons_zero]; exact rfl))); go_simp; refine hK.out _ _ ?_ (fun hHeld => ?_); rotate_left; clear hK K; (try simp only [Act.put, List.setIfInBounds_toArray, List.set_cons_zero, List.set_cons_succ]))
          rotate_left
          · exact ⟨by rw [World.cell?_setCell_other _ _ _ _ (fun e => by cases e), World.cell?_setCell_other _ _ _ _ (fun e => by cases e; exact hln rfl)]; exact s1, by rw [World.cell?_setCell_other _ _ _ _ (fun e => by cases e; exact hln rfl), World.cell?_setCell_other _ _ _ _ (fun e => by cases e)]; exact s2⟩
          refine wpAnyE_done (by kernel_rfl) ?_ _
          refine hQ _ _ ⟨lb, g, cap, ?_, Below.setCell (p := ⟨lb, 1, none⟩) (Below.setCell (p := ⟨lb, 0, none⟩) E4 (Nat.le_of_lt hlw) _) (Nat.le_of_lt hlw) _, HCC.out.1, HCC.out.2, (HRS.out.set hgl 0 _).set hgl 1 _, ?_, ?_, ?_, ?_⟩
          · simp only [Act.put, List.setIfInBounds_toArray, List.set_cons_zero, List.set_cons_succ]
          · rw [World.cell?_setCell_other _ _ _ _ (fun e => by cases e)]
            exact World.cell?_setCell_same _ _ _ m0
          · exact World.cell?_setCell_same _ _ _ ((World.cell?_setCell_other _ _ _ _ (fun e => by cases e)).trans m1)
          · rw [World.cell?_setCell_other _ _ _ _ (fun e => by cases e), World.cell?_setCell_other _ _ _ _ (fun e => by cases e; exact hln rfl)]
            exact s1
          · rw [World.cell?_setCell_other _ _ _ _ (fun e => by cases e; exact hln rfl), World.cell?_setCell_other _ _ _ _ (fun e => by cases e)]
            exact s2
      case tail =>
        clear y1 y2 E3 zz cd zd
        rintro a W ⟨lb, g, cap, rfl, E4, hc1, hc2, hR, m0, m1, s1, s2⟩
        have HTK := Lib.hid (HTL.out W g cap i E4 hiN hc1 hc2 hR)
        have hlen : (pks.eraseIdx i).length = N - 1 := by rw [List.length_eraseIdx, ← HN.out, if_pos hiN]
        have HIX := Lib.hid (IndexP_any (cap := cap) (xb := w.heap.size) HTK.out.pk hlen.symm (by omega) s2 HTK.out.nd HK.out (by omega) (fun j hj => by have := HNB.out j (by rw [HK.out]; exact hj); omega))
        have HLE := Lib.hid hlen
        have zl := cell_lt m0
        have zs := cell_lt s1
        dsimp only at zl zs
        clear hlen hR hc1 hc2
        simp only [Act.put, List.setIfInBounds_toArray, List.set_cons_zero, List.set_cons_succ]
        go_wp2_with fail
        refine HIX.out.mono ?_
        rintro e w5 ⟨r, rfl, hr, hE⟩
        replace E4 := E4.trans hE
        replace m0 := hE.cell m0
        replace m1 := hE.cell m1
        replace s1 := hE.cell s1
        replace s2 := hE.cell s2
        have HRR := Lib.hid hr
        have zl := cell_lt m0
        have zs := cell_lt s1
        dsimp only at zl zs
        by_cases hr0 : r < 0
        · have hex := HSF.out (fun j hj => HRR.out hr0 j (by rw [← HLE.out]; exact hj))
          have HO2 := Lib.hid (Order_any (HTK.out.ext hE))
          unfold OrdP taskV at HO2
          rw [hex.1, hex.2, HLE.out, ← HK.out] at HO2
          generalize orderL (pks.eraseIdx i) need = ol9 at HO2
          clear hex hr hE HIX HRR HSF HTK HLE
          go_wp2_with fail
          refine HO2.out.mono ?_
          rintro e w6 ⟨la9, lc9, rfl, _, hE⟩
          have ET : Ext w w6 := E4.trans hE
          have y1 := hE.cell s1
          have y2 := hE.cell s2
          have zT := cell_lt y1
          dsimp only at zT
          clear hE E4 m0 m1 s1 s2 zl zs HO2
          have hk5 : ((K : Int) == 0) = false := by simp; omega
          have hk4 : (0 : Int) < (K : Int) := by omega
          have hq0 : 0 ≤ z.tmod (K : Int) := Int.tmod_nonneg _ hz0
          have hq1 : z.tmod (K : Int) < (K : Int) := Int.tmod_lt_of_pos _ hk4
          obtain ⟨t, ht⟩ : ∃ t : Nat, z.tmod (K : Int) = (t : Int) := ⟨(z.tmod (K : Int)).toNat, by omega⟩
          have htK : t < K := by omega
          clear hq0 hq1
          go_wp2
          refine wp_key (FewX w need pa na N K pc nc) ?tail2 ?reg2
          case reg2 =>
            intro hQ
            refine wp_region_heldE 99 (fun w' => w'.cell? ⟨w.heap.size, 0, none⟩ = some (.slice pa N pc) ∧ w'.cell? ⟨w.heap.size, 1, none⟩ = some (.slice na K nc)) (by kernel_rfl) ?_
            have ED : Ext w6 w6.drew := (Ext.refl _).drew
            have hS := And.intro (ED.cell y1) (ED.cell y2)
            have E4 := ET.trans ED
            clear y1 y2 ET ED zT
            generalize w6.drew = w4 at hS E4 ⊢
            have s1 := hS.1
            have s2 := hS.2
            have zz := cell_lt s1
            dsimp only at zz
            ((refine eTk 0 ?_); (refine eTk 1 ?_); (refine eTk 2 ?_); (refine eTk 3 ?_))
            clear hS
            refine wpAnyE_two (i := 4) (j := 6) (o := ?_) (p := ?_) (by (simp only [List.getElem?_toArray, List.getElem?_cons_succ, List.getElem?_cons_zero]; exact rfl)) (by (simp only [List.getElem?_toArray, List.getElem?_cons_succ, List.getElem?_cons_zero]; exact rfl)) (by kernel_rfl) (fun K hK => ?_) (fun K hK => ?_)
            · go_simp
              go_at_call 28
              refine (HCN.out _ E4).mono ?_
              rintro e w5 ⟨vb, vc, rfl, hO, hvb, hE⟩
              go_wp2_with fail
              refine hK.out _ _ ⟨hE.cell s1, hE.cell s2⟩ (fun hHeld => ?_)
              clear hK K
              (try simp only [Act.put, List.setIfInBounds_toArray, List.set_cons_zero, List.set_cons_succ])
              have HO := Lib.hid hO
              replace E4 : Ext w w5 := E4.trans hE
              replace s1 := hE.cell s1
              replace s2 := hE.cell s2
              have hwg : w.heap.size < vb := by omega
              have hgs : vb < w5.heap.size := hO.lt rfl
              clear hE hO zz hvb
              ((refine ePu 5 ?_))
              have hw5 := E4.size
              (refine wpAnyE_one (i := 6) (o := ?_) ?_ (by kernel_rfl) (fun K hK => ?_); rotate_left; (focus ((simp only [List.getElem?_toArray, List.getElem?_cons_succ, List.getElem?_cons_zero]; exact rfl))); go_simp; refine hK.out _ _ ?_ (fun hHeld => ?_); rotate_left; clear hK K; (try simp only [Act.put, List.setIfInBounds_toArray, List.set_cons_zero, List.set_cons_succ]))
              rotate_left
              · exact ⟨((Ext.refl w5).alloc _).cell s1, ((Ext.refl w5).alloc _).cell s2⟩
              have EA : Ext w5 (w5.alloc (.cells #[.slice none 0 0, .slice none 0 0] 25)) := (Ext.refl _).alloc _
              have NT := NewT.made w5 25
              obtain ⟨lb, hlb⟩ : ∃ lb, lb = w5.heap.size := ⟨_, rfl⟩
              rw [← hlb] at NT ⊢
              have hlw : w.heap.size < lb := by omega
              have hgl : lb ≠ vb := by omega
              replace E4 : Ext w _ := E4.trans EA
              replace s1 := EA.cell s1
              replace s2 := EA.cell s2
              replace HO := Lib.hid (HO.out.ext EA)
              clear EA hlb hgs hw5
              generalize w5.alloc (.cells #[.slice none 0 0, .slice none 0 0] 25) = w7 at NT E4 s1 s2 HO hHeld ⊢
              have hln : w.heap.size ≠ lb := by omega
              have m0 := NT.c0
              have m1 := NT.c1
              have k0 := NT.f0
              have k1 := NT.f1
              (refine wpAnyE_one (i := 7) (o := ?_) ?_ (by kernel_rfl) (fun K hK => ?_); rotate_left; (focus ((simp only [List.getElem?_toArray, List.getElem?_cons_succ, List.getElem?_cons_zero]; exact rfl))); go_simp; refine hK.out _ _ ?_ (fun hHeld => ?_); rotate_left; clear hK K; (try simp only [Act.put, List.setIfInBounds_toArray, List.set_cons_zero, List.set_cons_succ]))
              rotate_left
              · exact ⟨by rw [World.cell?_setCell_other _ _ _ _ (fun e => by cases e), World.cell?_setCell_other _ _ _ _ (fun e => by cases e; exact hln rfl)]; exact s1, by rw [World.cell?_setCell_other _ _ _ _ (fun e => by cases e; exact hln rfl), World.cell?_setCell_other _ _ _ _ (fun e => by cases e)]; exact s2⟩
              refine wpAnyE_done (by kernel_rfl) ?_ _
              refine hQ _ _ ⟨lb, vb, vc, ?_, Below.setCell (p := ⟨lb, 1, none⟩) (Below.setCell (p := ⟨lb, 0, none⟩) E4 (Nat.le_of_lt hlw) _) (Nat.le_of_lt hlw) _, ownsI_setO (ownsI_setO HO.out hgl 0 _) hgl 1 _, hwg, hgl, ?_, ?_, ?_, ?_⟩
              · simp only [Act.put, List.setIfInBounds_toArray, List.set_cons_zero, List.set_cons_succ]
              · rw [World.cell?_setCell_other _ _ _ _ (fun e => by cases e)]
                exact World.cell?_setCell_same _ _ _ m0
              · exact World.cell?_setCell_same _ _ _ ((World.cell?_setCell_other _ _ _ _ (fun e => by cases e)).trans m1)
              · rw [World.cell?_setCell_other _ _ _ _ (fun e => by cases e), World.cell?_setCell_other _ _ _ _ (fun e => by cases e; exact hln rfl)]
                exact s1
              · rw [World.cell?_setCell_other _ _ _ _ (fun e => by cases e; exact hln rfl), World.cell?_setCell_other _ _ _ _ (fun e => by cases e)]
                exact s2
            · have EA : Ext w4 (w4.alloc (.cells #[.slice none 0 0, .slice none 0 0] 25)) := (Ext.refl _).alloc _
              have NT := NewT.made w4 25
              obtain ⟨lb, hlb⟩ : ∃ lb, lb = w4.heap.size := ⟨_, rfl⟩
              go_simp
              refine hK.out _ _ ⟨EA.cell s1, EA.cell s2⟩ (fun hHeld => ?_)
              clear hK K
              (try simp only [Act.put, List.setIfInBounds_toArray, List.set_cons_zero, List.set_cons_succ])
              rw [← hlb] at NT ⊢
              replace E4 := E4.trans EA
              replace s1 := EA.cell s1
              replace s2 := EA.cell s2
              have hlw : w.heap.size < lb := by omega
              have zw := cell_lt NT.c0
              dsimp only at zw
              clear EA hHeld zz hlb
              generalize w4.alloc (.cells #[.slice none 0 0, .slice none 0 0] 25) = w4 at NT E4 s1 s2 zw ⊢
              (refine wpAnyE_one (i := 4) (o := ?_) ?_ (by kernel_rfl) (fun K hK => ?_); rotate_left; (focus ((simp only [List.getElem?_toArray, List.getElem?_cons_succ, List.getElem?_cons_zero]; exact rfl))); go_simp; go_at_call 28; refine (HCN.out _ E4).mono ?_; rintro e w5 ⟨vb, vc, rfl, hO, hvb, hE⟩; go_wp2_with fail; refine hK.out _ _ ?_ (fun hHeld => ?_); rotate_left; clear hK K; (try simp only [Act.put, List.setIfInBounds_toArray, List.set_cons_zero, List.set_cons_succ]))
              rotate_left
              · exact ⟨hE.cell s1, hE.cell s2⟩
              have HO := Lib.hid hO
              replace E4 := E4.trans hE
              replace s1 := hE.cell s1
              replace s2 := hE.cell s2
              replace NT := NT.ext hE
              have hwg : w.heap.size < vb := by omega
              have hgl : lb ≠ vb := by omega
              clear hE hO zw hvb
              ((refine ePu 5 ?_))
              have hln : w.heap.size ≠ lb := by omega
              have m0 := NT.c0
              have m1 := NT.c1
              have k0 := NT.f0
              have k1 := NT.f1
              (refine wpAnyE_one (i := 7) (o := ?_) ?_ (by kernel_rfl) (fun K hK => ?_); rotate_left; (focus ((simp only [List.getElem?_toArray, List.getElem?_cons_succ, List.getElem?_cons_zero]; exact rfl))); go_simp; refine hK.out _ _ ?_ (fun hHeld => ?_); rotate_left; clear hK K; (try simp only [Act.put, List.setIfInBounds_toArray, List.set_cons_zero, List.set_cons_succ]))
              rotate_left
              · exact ⟨by rw [World.cell?_setCell_other _ _ _ _ (fun e => by cases e), World.cell?_setCell_other _ _ _ _ (fun e => by cases e; exact hln rfl)]; exact s1, by rw [World.cell?_setCell_other _ _ _ _ (fun e => by cases e; exact hln rfl), World.cell?_setCell_other _ _ _ _ (fun e => by cases e)]; exact s2⟩
              refine wpAnyE_done (by kernel_rfl) ?_ _
              refine hQ _ _ ⟨lb, vb, vc, ?_, Below.setCell (p := ⟨lb, 1, none⟩) (Below.setCell (p := ⟨lb, 0, none⟩) E4 (Nat.le_of_lt hlw) _) (Nat.le_of_lt hlw) _, ownsI_setO (ownsI_setO HO.out hgl 0 _) hgl 1 _, hwg, hgl, ?_, ?_, ?_, ?_⟩
              · simp only [Act.put, List.setIfInBounds_toArray, List.set_cons_zero, List.set_cons_succ]
              · rw [World.cell?_setCell_other _ _ _ _ (fun e => by cases e)]
                exact World.cell?_setCell_same _ _ _ m0
              · exact World.cell?_setCell_same _ _ _ ((World.cell?_setCell_other _ _ _ _ (fun e => by cases e)).trans m1)
              · rw [World.cell?_setCell_other _ _ _ _ (fun e => by cases e), World.cell?_setCell_other _ _ _ _ (fun e => by cases e; exact hln rfl)]
                exact s1
              · rw [World.cell?_setCell_other _ _ _ _ (fun e => by cases e; exact hln rfl), World.cell?_setCell_other _ _ _ _ (fun e => by cases e)]
                exact s2
          case tail2 =>
            clear y1 y2 ET zT
            rintro a W ⟨lb, vb, vc, rfl, E4, hO, hwv, hlv, m0, m1, s1, s2⟩
            simp only [Act.put, List.setIfInBounds_toArray, List.set_cons_zero, List.set_cons_succ]
            obtain ⟨d1, d2⟩ := hO.at (i := t) (by rw [← HK.out]; exact htK)
            have HVC : Hid (K ≤ vc ∧ vc ≤ maxLen) := by
              obtain ⟨_, _, hv9, _, hv1, hv2⟩ := hO.full
              obtain ⟨_, e8, e9⟩ := Value.slice.inj hv9
              rw [← e8, ← e9] at hv1
              rw [← e9] at hv2
              exact ⟨hv1, hv2⟩
            have hxb := HNB.out t htK
            have HFM := Lib.hid (fun mx h0 h1 => fewer_of (mx := mx) (t := t) (need := need) (by rw [← HK.out]; exact htK) HSE.out.nd h0 h1)
            generalize need.getD t 0 = x at d1 hxb HFM
            have q1 : IntKind.i64.wrap (x - 1) = x - 1 := IntWalk.i64_in _ (by omega)
            obtain ⟨mx, hmx⟩ : ∃ mx, max 0 (x - 1) = mx := ⟨_, rfl⟩
            have hmx0 : 0 ≤ mx ∧ mx ≤ x := by omega
            obtain ⟨n1, n2, n3⟩ := HFM.out mx hmx0.1 hmx0.2
            have HMX := Lib.hid hmx
            have HOS := Lib.hid hO
            have zl := cell_lt m0
            have zv := cell_lt d1
            have zs := cell_lt s1
            dsimp only at zl zv zs
            clear hmx hmx0 HFM hO
            go_wp2
            refine wp_region_heldE 11 (fun w' => w'.cell? ⟨lb, 1, none⟩ = some (.slice (some ⟨vb, 0, none⟩) K vc) ∧ w'.cell? ⟨vb, t, none⟩ = some (.int .i64 x)) (by kernel_rfl) ?_
            have ED : Ext W W.drew := (Ext.refl _).drew
            have hS : W.drew.cell? ⟨lb, 1, none⟩ = some (.slice (some ⟨vb, 0, none⟩) K vc) ∧ W.drew.cell? ⟨vb, t, none⟩ = some (.int .i64 x) := ⟨m1, d1⟩
            replace E4 := E4.trans ED
            replace m0 := ED.cell m0
            replace m1 := ED.cell m1
            replace d1 := ED.cell d1
            replace s1 := ED.cell s1
            replace s2 := ED.cell s2
            replace HOS := Lib.hid (HOS.out.ext ED)
            have d3 : W.drew.frozen? ⟨vb, t, none⟩ = false := d2
            clear ED d2 zl zv zs
            generalize W.drew = W at hS E4 m0 m1 d1 s1 s2 HOS d3 ⊢
            ((refine eTk 0 ?_); (refine eTk 1 ?_); (refine eTk 2 ?_); (refine eTk 3 ?_); (refine eTk 4 ?_); (refine eTk 5 ?_); (refine eTk 6 ?_); (refine eTk 7 ?_); (refine eTk 8 ?_))
            (refine wpAnyE_pure (v := .int .i64 mx) (i := 9) (oi := ?_) ?_ (by kernel_rfl) ?_ ?_ ?_ ?_; rotate_left; (focus ((simp only [List.getElem?_toArray, List.getElem?_cons_succ, List.getElem?_cons_zero]; exact rfl))); (focus (exact fun _ _ _ h => h)); (focus (refine Or.inl ⟨by rfl, ?_⟩; intro w hSw; clear hSw; go_simp; exact HMX.out)); (focus (first | exact (fun _ => by assumption) | (intro hlst; exact absurd hlst (by kernel_rfl)) | (intro hlst; cases hlst))); (try simp only [Act.put, List.setIfInBounds_toArray, List.set_cons_zero, List.set_cons_succ]))
            (refine eTk 10 ?_)
            (refine wpAnyE_free (i := 11) (o := ?_) ?_ (by kernel_rfl) (by kernel_rfl) (fun K hK => ?_); rotate_left; (focus ((simp only [List.getElem?_toArray, List.getElem?_cons_succ, List.getElem?_cons_zero]; exact rfl))); go_simp; refine hK.out _ _ ?_; clear hK K; (try simp only [Act.put, List.setIfInBounds_toArray, List.set_cons_zero, List.set_cons_succ]))
            refine wpAnyE_done (by kernel_rfl) ?_ _
            have hvw : w.heap.size ≠ vb := by omega
            have hc2 : ∀ b o, b ≠ vb → (W.setCell ⟨vb, t, none⟩ (.int .i64 mx)).cell? ⟨b, o, none⟩ = W.cell? ⟨b, o, none⟩ := fun b o hb => World.cell?_setCell_other _ _ _ _ (fun e => by cases e; exact hb rfl)
            have E5 : Ext w (W.setCell ⟨vb, t, none⟩ (.int .i64 mx)) := Below.setCell (p := ⟨vb, t, none⟩) E4 (Nat.le_of_lt hwv) _
            replace m0 := (hc2 lb 0 hlv).trans m0
            replace m1 := (hc2 lb 1 hlv).trans m1
            replace s1 := (hc2 _ 0 hvw).trans s1
            replace s2 := (hc2 _ 1 hvw).trans s2
            have hOS := HOS.out.set t mx
            have HT2 : Hid (TaskG (W.setCell ⟨vb, t, none⟩ (.int .i64 mx)) pks (need.set t mx) pa pc (some ⟨vb, 0, none⟩) vc) := ⟨HT.out.pk.ext E5, by
              obtain ⟨_, _, hv9, hc9, _⟩ := hOS.full
              rw [(Value.slice.inj hv9).1]
              exact hc9, HT.out.p1, HT.out.p2, by rw [n1, ← HK.out]; exact HVC.out.1, HVC.out.2⟩
            have HO2 := Lib.hid (Order_any HT2.out)
            unfold OrdP taskV at HO2
            rw [n1, ← HK.out, ← HN.out] at HO2
            have HF2 := Lib.hid (HFW.out HSE.out _ n1 n2 n3)
            generalize orderL pks (need.set t mx) = ol2 at HO2
            generalize orderP pks (need.set t mx) = op2 at HO2 HF2
            generalize orderE pks (need.set t mx) = oe2 at HO2 HF2
            clear hOS HOS d1 d3 hS E4 n1 n2 n3 HT2 hc2 q1 HMX HVC
            generalize W.setCell ⟨vb, t, none⟩ (.int .i64 mx) = W at E5 m0 m1 s1 s2 HO2 ⊢
            have zl := cell_lt m0
            have zs := cell_lt s1
            dsimp only at zl zs
            go_wp2_with fail
            refine HO2.out.mono ?_
            rintro e w6 ⟨la2, lc2, rfl, _, hE⟩
            replace E5 := E5.trans hE
            replace s1 := hE.cell s1
            replace s2 := hE.cell s2
            have zs := cell_lt s1
            dsimp only at zs
            clear hE m0 m1 zl HO2
            go_wp2
            refine wp_region_heldE 99 (fun w' => w'.cell? ⟨w.heap.size, 0, none⟩ = some (.slice pa N pc) ∧ w'.cell? ⟨w.heap.size, 1, none⟩ = some (.slice na K nc)) (by kernel_rfl) ?_
            have ED : Ext w6 w6.drew := (Ext.refl _).drew
            have hS := And.intro (ED.cell s1) (ED.cell s2)
            replace E5 := E5.trans ED
            clear s1 s2 ED zs
            generalize w6.drew = w6 at hS E5 ⊢
            have s1 := hS.1
            have s2 := hS.2
            have zs := cell_lt s1
            dsimp only at zs
            ((refine eTk 0 ?_); (refine eTk 1 ?_); (refine eTk 2 ?_); (refine eTk 3 ?_); (refine eTk 4 ?_))
            obtain ⟨w7, hr, hcz, hE⟩ := zeros_run w6 K (by omega)
            obtain ⟨Kv, hKv⟩ : ∃ Kv : Value, Kv = .int .i64 (K : Int) := ⟨_, rfl⟩
            rw [← hKv] at hr
            have HR := Lib.hid hr
            have HCZ := Lib.hid hcz
            (refine wpAnyE_one (i := 5) (o := ?_) ?_ (by kernel_rfl) (fun K hK => ?_); rotate_left; (focus ((simp only [List.getElem?_toArray, List.getElem?_cons_succ, List.getElem?_cons_zero]; exact rfl))); refine step_make rfl _ _ 23 rfl Kv Kv (by rw [hKv]; rfl) (by rw [hKv]; rfl) _ _ HR.out ?_; refine hK.out _ _ ?_ (fun hHeld => ?_); rotate_left; clear hK K; (try simp only [Act.put, List.setIfInBounds_toArray, List.set_cons_zero, List.set_cons_succ]))
            rotate_left
            · exact ⟨hE.cell s1, hE.cell s2⟩
            replace E5 := E5.trans hE
            replace s1 := hE.cell s1
            replace s2 := hE.cell s2
            have zs := cell_lt s1
            dsimp only at zs
            clear hE hr hcz HR hKv
            obtain ⟨p0, p1, p2, p3, p4, p5⟩ := HNO.out
            have HO3 := Lib.hid (Order_any (pks := pks) (need := List.replicate K 0) (pa := pa) (pc := pc) (na := some ⟨w6.heap.size, 0, none⟩) (nc := K) (w := w7) ⟨HT.out.pk.ext E5, HCZ.out, HT.out.p1, HT.out.p2, by rw [List.length_replicate]; exact Nat.le_refl _, by unfold maxLen; omega⟩)
            unfold OrdP taskV at HO3
            rw [List.length_replicate, p1, p2, p3, ← HN.out] at HO3
            rw [p3, ← HN.out] at p5
            have HSU : Hid (∀ (a9 : Option Addr) (c9 : Nat) W, CellsI W a9 (orderL pks (List.replicate K 0)) → Calls Tryz.prog 29 #[.slice a9 N c9] W fun e w' => e = .returned (.int .i64 0) ∧ Ext W w') := fun a9 c9 W hc => by
              have h := sumI_any _ a9 c9 W hc (by rw [p3, ← HN.out]; omega) (fun i hi => p5 i (by rw [p3, ← HN.out] at hi; exact hi))
              rw [p3, p4, ← HN.out] at h
              exact h
            generalize orderL pks (List.replicate K 0) = ol3 at HO3 HSU
            clear p0 p1 p2 p3 p4 p5 HCZ
            ((refine ePu 6 ?_))
            (refine wpAnyE_one (i := 7) (o := ?_) ?_ (by kernel_rfl) (fun K hK => ?_); rotate_left; (focus ((simp only [List.getElem?_toArray, List.getElem?_cons_succ, List.getElem?_cons_zero]; exact rfl))); go_simp; go_at_call 13; refine HO3.out.mono ?_; rintro e w8 ⟨la3, lc3, rfl, hc3, hE⟩; go_wp2_with fail; refine hK.out _ _ ?_ (fun hHeld => ?_); rotate_left; clear hK K; (try simp only [Act.put, List.setIfInBounds_toArray, List.set_cons_zero, List.set_cons_succ]))
            rotate_left
            · exact ⟨hE.cell s1, hE.cell s2⟩
            replace E5 := E5.trans hE
            replace s1 := hE.cell s1
            replace s2 := hE.cell s2
            have zs := cell_lt s1
            dsimp only at zs
            have HS3 := Lib.hid (HSU.out la3 lc3 _ hc3)
            clear hE HO3 hc3 HSU hS
            ((refine ePu 8 ?_); (refine ePu 9 ?_); (refine ePu 10 ?_); (refine ePu 11 ?_); (refine ePu 12 ?_); (refine ePu 13 ?_); (refine ePu 14 ?_))
            refine wpAnyE_done (by kernel_rfl) ?_ _
            go_wp2_with fail
            refine HS3.out.mono ?_
            rintro e w9 ⟨rfl, hE⟩
            replace E5 := E5.trans hE
            clear hE s1 s2 zs HS3
            go_wp2_with fail
            refine (HAW.out _ E5).mono ?_
            rintro e wA ⟨rfl, hE⟩
            go_wp2
            go_ret
            exact ⟨rfl, E5.trans hE⟩
        · have ET : Ext w w5 := E4
          have y1 := s1
          have y2 := s2
          have zT := cell_lt y1
          dsimp only at zT
          clear hr hE HIX HRR HSF HTK HLE E4 m0 m1 s1 s2 zl zs
          have hk5 : ((K : Int) == 0) = false := by simp; omega
          have hk4 : (0 : Int) < (K : Int) := by omega
          have hq0 : 0 ≤ z.tmod (K : Int) := Int.tmod_nonneg _ hz0
          have hq1 : z.tmod (K : Int) < (K : Int) := Int.tmod_lt_of_pos _ hk4
          obtain ⟨t, ht⟩ : ∃ t : Nat, z.tmod (K : Int) = (t : Int) := ⟨(z.tmod (K : Int)).toNat, by omega⟩
          have htK : t < K := by omega
          clear hq0 hq1
          go_wp2
          refine wp_key (FewX w need pa na N K pc nc) ?tail2 ?reg2
          case reg2 =>
            intro hQ
            refine wp_region_heldE 99 (fun w' => w'.cell? ⟨w.heap.size, 0, none⟩ = some (.slice pa N pc) ∧ w'.cell? ⟨w.heap.size, 1, none⟩ = some (.slice na K nc)) (by kernel_rfl) ?_
            have ED : Ext w5 w5.drew := (Ext.refl _).drew
            have hS := And.intro (ED.cell y1) (ED.cell y2)
            have E4 := ET.trans ED
            clear y1 y2 ET ED zT
            generalize w5.drew = w4 at hS E4 ⊢
            have s1 := hS.1
            have s2 := hS.2
            have zz := cell_lt s1
            dsimp only at zz
            ((refine eTk 0 ?_); (refine eTk 1 ?_); (refine eTk 2 ?_); (refine eTk 3 ?_))
            clear hS
            refine wpAnyE_two (i := 4) (j := 6) (o := ?_) (p := ?_) (by (simp only [List.getElem?_toArray, List.getElem?_cons_succ, List.getElem?_cons_zero]; exact rfl)) (by (simp only [List.getElem?_toArray, List.getElem?_cons_succ, List.getElem?_cons_zero]; exact rfl)) (by kernel_rfl) (fun K hK => ?_) (fun K hK => ?_)
            · go_simp
              go_at_call 28
              refine (HCN.out _ E4).mono ?_
              rintro e w5 ⟨vb, vc, rfl, hO, hvb, hE⟩
              go_wp2_with fail
              refine hK.out _ _ ⟨hE.cell s1, hE.cell s2⟩ (fun hHeld => ?_)
              clear hK K
              (try simp only [Act.put, List.setIfInBounds_toArray, List.set_cons_zero, List.set_cons_succ])
              have HO := Lib.hid hO
              replace E4 : Ext w w5 := E4.trans hE
              replace s1 := hE.cell s1
              replace s2 := hE.cell s2
              have hwg : w.heap.size < vb := by omega
              have hgs : vb < w5.heap.size := hO.lt rfl
              clear hE hO zz hvb
              ((refine ePu 5 ?_))
              have hw5 := E4.size
              (refine wpAnyE_one (i := 6) (o := ?_) ?_ (by kernel_rfl) (fun K hK => ?_); rotate_left; (focus ((simp only [List.getElem?_toArray, List.getElem?_cons_succ, List.getElem?_cons_zero]; exact rfl))); go_simp; refine hK.out _ _ ?_ (fun hHeld => ?_); rotate_left; clear hK K; (try simp only [Act.put, List.setIfInBounds_toArray, List.set_cons_zero, List.set_cons_succ]))
              rotate_left
              · exact ⟨((Ext.refl w5).alloc _).cell s1, ((Ext.refl w5).alloc _).cell s2⟩
              have EA : Ext w5 (w5.alloc (.cells #[.slice none 0 0, .slice none 0 0] 25)) := (Ext.refl _).alloc _
              have NT := NewT.made w5 25
              obtain ⟨lb, hlb⟩ : ∃ lb, lb = w5.heap.size := ⟨_, rfl⟩
              rw [← hlb] at NT ⊢
              have hlw : w.heap.size < lb := by omega
              have hgl : lb ≠ vb := by omega
              replace E4 : Ext w _ := E4.trans EA
              replace s1 := EA.cell s1
              replace s2 := EA.cell s2
              replace HO := Lib.hid (HO.out.ext EA)
              clear EA hlb hgs hw5
              generalize w5.alloc (.cells #[.slice none 0 0, .slice none 0 0] 25) = w7 at NT E4 s1 s2 HO hHeld ⊢
              have hln : w.heap.size ≠ lb := by omega
              have m0 := NT.c0
              have m1 := NT.c1
              have k0 := NT.f0
              have k1 := NT.f1
              (refine wpAnyE_one (i := 7) (o := ?_) ?_ (by kernel_rfl) (fun K hK => ?_); rotate_left; (focus ((simp only [List.getElem?_toArray, List.getElem?_cons_succ, List.getElem?_cons_zero]; exact rfl))); go_simp; refine hK.out _ _ ?_ (fun hHeld => ?_); rotate_left; clear hK K; (try simp only [Act.put, List.setIfInBounds_toArray, List.set_cons_zero, List.set_cons_succ]))
              rotate_left
              · exact ⟨by rw [World.cell?_setCell_other _ _ _ _ (fun e => by cases e), World.cell?_setCell_other _ _ _ _ (fun e => by cases e; exact hln rfl)]; exact s1, by rw [World.cell?_setCell_other _ _ _ _ (fun e => by cases e; exact hln rfl), World.cell?_setCell_other _ _ _ _ (fun e => by cases e)]; exact s2⟩
              refine wpAnyE_done (by kernel_rfl) ?_ _
              refine hQ _ _ ⟨lb, vb, vc, ?_, Below.setCell (p := ⟨lb, 1, none⟩) (Below.setCell (p := ⟨lb, 0, none⟩) E4 (Nat.le_of_lt hlw) _) (Nat.le_of_lt hlw) _, ownsI_setO (ownsI_setO HO.out hgl 0 _) hgl 1 _, hwg, hgl, ?_, ?_, ?_, ?_⟩
              · simp only [Act.put, List.setIfInBounds_toArray, List.set_cons_zero, List.set_cons_succ]
              · rw [World.cell?_setCell_other _ _ _ _ (fun e => by cases e)]
                exact World.cell?_setCell_same _ _ _ m0
              · exact World.cell?_setCell_same _ _ _ ((World.cell?_setCell_other _ _ _ _ (fun e => by cases e)).trans m1)
              · rw [World.cell?_setCell_other _ _ _ _ (fun e => by cases e), World.cell?_setCell_other _ _ _ _ (fun e => by cases e; exact hln rfl)]
                exact s1
              · rw [World.cell?_setCell_other _ _ _ _ (fun e => by cases e; exact hln rfl), World.cell?_setCell_other _ _ _ _ (fun e => by cases e)]
                exact s2
            · have EA : Ext w4 (w4.alloc (.cells #[.slice none 0 0, .slice none 0 0] 25)) := (Ext.refl _).alloc _
              have NT := NewT.made w4 25
              obtain ⟨lb, hlb⟩ : ∃ lb, lb = w4.heap.size := ⟨_, rfl⟩
              go_simp
              refine hK.out _ _ ⟨EA.cell s1, EA.cell s2⟩ (fun hHeld => ?_)
              clear hK K
              (try simp only [Act.put, List.setIfInBounds_toArray, List.set_cons_zero, List.set_cons_succ])
              rw [← hlb] at NT ⊢
              replace E4 := E4.trans EA
              replace s1 := EA.cell s1
              replace s2 := EA.cell s2
              have hlw : w.heap.size < lb := by omega
              have zw := cell_lt NT.c0
              dsimp only at zw
              clear EA hHeld zz hlb
              generalize w4.alloc (.cells #[.slice none 0 0, .slice none 0 0] 25) = w4 at NT E4 s1 s2 zw ⊢
              (refine wpAnyE_one (i := 4) (o := ?_) ?_ (by kernel_rfl) (fun K hK => ?_); rotate_left; (focus ((simp only [List.getElem?_toArray, List.getElem?_cons_succ, List.getElem?_cons_zero]; exact rfl))); go_simp; go_at_call 28; refine (HCN.out _ E4).mono ?_; rintro e w5 ⟨vb, vc, rfl, hO, hvb, hE⟩; go_wp2_with fail; refine hK.out _ _ ?_ (fun hHeld => ?_); rotate_left; clear hK K; (try simp only [Act.put, List.setIfInBounds_toArray, List.set_cons_zero, List.set_cons_succ]))
              rotate_left
              · exact ⟨hE.cell s1, hE.cell s2⟩
              have HO := Lib.hid hO
              replace E4 := E4.trans hE
              replace s1 := hE.cell s1
              replace s2 := hE.cell s2
              replace NT := NT.ext hE
              have hwg : w.heap.size < vb := by omega
              have hgl : lb ≠ vb := by omega
              clear hE hO zw hvb
              ((refine ePu 5 ?_))
              have hln : w.heap.size ≠ lb := by omega
              have m0 := NT.c0
              have m1 := NT.c1
              have k0 := NT.f0
              have k1 := NT.f1
              (refine wpAnyE_one (i := 7) (o := ?_) ?_ (by kernel_rfl) (fun K hK => ?_); rotate_left; (focus ((simp only [List.getElem?_toArray, List.getElem?_cons_succ, List.getElem?_cons_zero]; exact rfl))); go_simp; refine hK.out _ _ ?_ (fun hHeld => ?_); rotate_left; clear hK K; (try simp only [Act.put, List.setIfInBounds_toArray, List.set_cons_zero, List.set_cons_succ]))
              rotate_left
              · exact ⟨by rw [World.cell?_setCell_other _ _ _ _ (fun e => by cases e), World.cell?_setCell_other _ _ _ _ (fun e => by cases e; exact hln rfl)]; exact s1, by rw [World.cell?_setCell_other _ _ _ _ (fun e => by cases e; exact hln rfl), World.cell?_setCell_other _ _ _ _ (fun e => by cases e)]; exact s2⟩
              refine wpAnyE_done (by kernel_rfl) ?_ _
              refine hQ _ _ ⟨lb, vb, vc, ?_, Below.setCell (p := ⟨lb, 1, none⟩) (Below.setCell (p := ⟨lb, 0, none⟩) E4 (Nat.le_of_lt hlw) _) (Nat.le_of_lt hlw) _, ownsI_setO (ownsI_setO HO.out hgl 0 _) hgl 1 _, hwg, hgl, ?_, ?_, ?_, ?_⟩
              · simp only [Act.put, List.setIfInBounds_toArray, List.set_cons_zero, List.set_cons_succ]
              · rw [World.cell?_setCell_other _ _ _ _ (fun e => by cases e)]
                exact World.cell?_setCell_same _ _ _ m0
              · exact World.cell?_setCell_same _ _ _ ((World.cell?_setCell_other _ _ _ _ (fun e => by cases e)).trans m1)
              · rw [World.cell?_setCell_other _ _ _ _ (fun e => by cases e), World.cell?_setCell_other _ _ _ _ (fun e => by cases e; exact hln rfl)]
                exact s1
              · rw [World.cell?_setCell_other _ _ _ _ (fun e => by cases e; exact hln rfl), World.cell?_setCell_other _ _ _ _ (fun e => by cases e)]
                exact s2
          case tail2 =>
            clear y1 y2 ET zT
            rintro a W ⟨lb, vb, vc, rfl, E4, hO, hwv, hlv, m0, m1, s1, s2⟩
            simp only [Act.put, List.setIfInBounds_toArray, List.set_cons_zero, List.set_cons_succ]
            obtain ⟨d1, d2⟩ := hO.at (i := t) (by rw [← HK.out]; exact htK)
            have HVC : Hid (K ≤ vc ∧ vc ≤ maxLen) := by
              obtain ⟨_, _, hv9, _, hv1, hv2⟩ := hO.full
              obtain ⟨_, e8, e9⟩ := Value.slice.inj hv9
              rw [← e8, ← e9] at hv1
              rw [← e9] at hv2
              exact ⟨hv1, hv2⟩
            have hxb := HNB.out t htK
            have HFM := Lib.hid (fun mx h0 h1 => fewer_of (mx := mx) (t := t) (need := need) (by rw [← HK.out]; exact htK) HSE.out.nd h0 h1)
            generalize need.getD t 0 = x at d1 hxb HFM
            have q1 : IntKind.i64.wrap (x - 1) = x - 1 := IntWalk.i64_in _ (by omega)
            obtain ⟨mx, hmx⟩ : ∃ mx, max 0 (x - 1) = mx := ⟨_, rfl⟩
            have hmx0 : 0 ≤ mx ∧ mx ≤ x := by omega
            obtain ⟨n1, n2, n3⟩ := HFM.out mx hmx0.1 hmx0.2
            have HMX := Lib.hid hmx
            have HOS := Lib.hid hO
            have zl := cell_lt m0
            have zv := cell_lt d1
            have zs := cell_lt s1
            dsimp only at zl zv zs
            clear hmx hmx0 HFM hO
            go_wp2
            refine wp_region_heldE 11 (fun w' => w'.cell? ⟨lb, 1, none⟩ = some (.slice (some ⟨vb, 0, none⟩) K vc) ∧ w'.cell? ⟨vb, t, none⟩ = some (.int .i64 x)) (by kernel_rfl) ?_
            have ED : Ext W W.drew := (Ext.refl _).drew
            have hS : W.drew.cell? ⟨lb, 1, none⟩ = some (.slice (some ⟨vb, 0, none⟩) K vc) ∧ W.drew.cell? ⟨vb, t, none⟩ = some (.int .i64 x) := ⟨m1, d1⟩
            replace E4 := E4.trans ED
            replace m0 := ED.cell m0
            replace m1 := ED.cell m1
            replace d1 := ED.cell d1
            replace s1 := ED.cell s1
            replace s2 := ED.cell s2
            replace HOS := Lib.hid (HOS.out.ext ED)
            have d3 : W.drew.frozen? ⟨vb, t, none⟩ = false := d2
            clear ED d2 zl zv zs
            generalize W.drew = W at hS E4 m0 m1 d1 s1 s2 HOS d3 ⊢
            ((refine eTk 0 ?_); (refine eTk 1 ?_); (refine eTk 2 ?_); (refine eTk 3 ?_); (refine eTk 4 ?_); (refine eTk 5 ?_); (refine eTk 6 ?_); (refine eTk 7 ?_); (refine eTk 8 ?_))
            (refine wpAnyE_pure (v := .int .i64 mx) (i := 9) (oi := ?_) ?_ (by kernel_rfl) ?_ ?_ ?_ ?_; rotate_left; (focus ((simp only [List.getElem?_toArray, List.getElem?_cons_succ, List.getElem?_cons_zero]; exact rfl))); (focus (exact fun _ _ _ h => h)); (focus (refine Or.inl ⟨by rfl, ?_⟩; intro w hSw; clear hSw; go_simp; exact HMX.out)); (focus (first | exact (fun _ => by assumption) | (intro hlst; exact absurd hlst (by kernel_rfl)) | (intro hlst; cases hlst))); (try simp only [Act.put, List.setIfInBounds_toArray, List.set_cons_zero, List.set_cons_succ]))
            (refine eTk 10 ?_)
            (refine wpAnyE_free (i := 11) (o := ?_) ?_ (by kernel_rfl) (by kernel_rfl) (fun K hK => ?_); rotate_left; (focus ((simp only [List.getElem?_toArray, List.getElem?_cons_succ, List.getElem?_cons_zero]; exact rfl))); go_simp; refine hK.out _ _ ?_; clear hK K; (try simp only [Act.put, List.setIfInBounds_toArray, List.set_cons_zero, List.set_cons_succ]))
            refine wpAnyE_done (by kernel_rfl) ?_ _
            have hvw : w.heap.size ≠ vb := by omega
            have hc2 : ∀ b o, b ≠ vb → (W.setCell ⟨vb, t, none⟩ (.int .i64 mx)).cell? ⟨b, o, none⟩ = W.cell? ⟨b, o, none⟩ := fun b o hb => World.cell?_setCell_other _ _ _ _ (fun e => by cases e; exact hb rfl)
            have E5 : Ext w (W.setCell ⟨vb, t, none⟩ (.int .i64 mx)) := Below.setCell (p := ⟨vb, t, none⟩) E4 (Nat.le_of_lt hwv) _
            replace m0 := (hc2 lb 0 hlv).trans m0
            replace m1 := (hc2 lb 1 hlv).trans m1
            replace s1 := (hc2 _ 0 hvw).trans s1
            replace s2 := (hc2 _ 1 hvw).trans s2
            have hOS := HOS.out.set t mx
            have HT2 : Hid (TaskG (W.setCell ⟨vb, t, none⟩ (.int .i64 mx)) pks (need.set t mx) pa pc (some ⟨vb, 0, none⟩) vc) := ⟨HT.out.pk.ext E5, by
              obtain ⟨_, _, hv9, hc9, _⟩ := hOS.full
              rw [(Value.slice.inj hv9).1]
              exact hc9, HT.out.p1, HT.out.p2, by rw [n1, ← HK.out]; exact HVC.out.1, HVC.out.2⟩
            have HO2 := Lib.hid (Order_any HT2.out)
            unfold OrdP taskV at HO2
            rw [n1, ← HK.out, ← HN.out] at HO2
            have HF2 := Lib.hid (HFW.out HSE.out _ n1 n2 n3)
            generalize orderL pks (need.set t mx) = ol2 at HO2
            generalize orderP pks (need.set t mx) = op2 at HO2 HF2
            generalize orderE pks (need.set t mx) = oe2 at HO2 HF2
            clear hOS HOS d1 d3 hS E4 n1 n2 n3 HT2 hc2 q1 HMX HVC
            generalize W.setCell ⟨vb, t, none⟩ (.int .i64 mx) = W at E5 m0 m1 s1 s2 HO2 ⊢
            have zl := cell_lt m0
            have zs := cell_lt s1
            dsimp only at zl zs
            go_wp2_with fail
            refine HO2.out.mono ?_
            rintro e w6 ⟨la2, lc2, rfl, _, hE⟩
            replace E5 := E5.trans hE
            replace s1 := hE.cell s1
            replace s2 := hE.cell s2
            have zs := cell_lt s1
            dsimp only at zs
            clear hE m0 m1 zl HO2
            go_wp2
            refine wp_region_heldE 99 (fun w' => w'.cell? ⟨w.heap.size, 0, none⟩ = some (.slice pa N pc) ∧ w'.cell? ⟨w.heap.size, 1, none⟩ = some (.slice na K nc)) (by kernel_rfl) ?_
            have ED : Ext w6 w6.drew := (Ext.refl _).drew
            have hS := And.intro (ED.cell s1) (ED.cell s2)
            replace E5 := E5.trans ED
            clear s1 s2 ED zs
            generalize w6.drew = w6 at hS E5 ⊢
            have s1 := hS.1
            have s2 := hS.2
            have zs := cell_lt s1
            dsimp only at zs
            ((refine eTk 0 ?_); (refine eTk 1 ?_); (refine eTk 2 ?_); (refine eTk 3 ?_); (refine eTk 4 ?_))
            obtain ⟨w7, hr, hcz, hE⟩ := zeros_run w6 K (by omega)
            obtain ⟨Kv, hKv⟩ : ∃ Kv : Value, Kv = .int .i64 (K : Int) := ⟨_, rfl⟩
            rw [← hKv] at hr
            have HR := Lib.hid hr
            have HCZ := Lib.hid hcz
            (refine wpAnyE_one (i := 5) (o := ?_) ?_ (by kernel_rfl) (fun K hK => ?_); rotate_left; (focus ((simp only [List.getElem?_toArray, List.getElem?_cons_succ, List.getElem?_cons_zero]; exact rfl))); refine step_make rfl _ _ 23 rfl Kv Kv (by rw [hKv]; rfl) (by rw [hKv]; rfl) _ _ HR.out ?_; refine hK.out _ _ ?_ (fun hHeld => ?_); rotate_left; clear hK K; (try simp only [Act.put, List.setIfInBounds_toArray, List.set_cons_zero, List.set_cons_succ]))
            rotate_left
            · exact ⟨hE.cell s1, hE.cell s2⟩
            replace E5 := E5.trans hE
            replace s1 := hE.cell s1
            replace s2 := hE.cell s2
            have zs := cell_lt s1
            dsimp only at zs
            clear hE hr hcz HR hKv
            obtain ⟨p0, p1, p2, p3, p4, p5⟩ := HNO.out
            have HO3 := Lib.hid (Order_any (pks := pks) (need := List.replicate K 0) (pa := pa) (pc := pc) (na := some ⟨w6.heap.size, 0, none⟩) (nc := K) (w := w7) ⟨HT.out.pk.ext E5, HCZ.out, HT.out.p1, HT.out.p2, by rw [List.length_replicate]; exact Nat.le_refl _, by unfold maxLen; omega⟩)
            unfold OrdP taskV at HO3
            rw [List.length_replicate, p1, p2, p3, ← HN.out] at HO3
            rw [p3, ← HN.out] at p5
            have HSU : Hid (∀ (a9 : Option Addr) (c9 : Nat) W, CellsI W a9 (orderL pks (List.replicate K 0)) → Calls Tryz.prog 29 #[.slice a9 N c9] W fun e w' => e = .returned (.int .i64 0) ∧ Ext W w') := fun a9 c9 W hc => by
              have h := sumI_any _ a9 c9 W hc (by rw [p3, ← HN.out]; omega) (fun i hi => p5 i (by rw [p3, ← HN.out] at hi; exact hi))
              rw [p3, p4, ← HN.out] at h
              exact h
            generalize orderL pks (List.replicate K 0) = ol3 at HO3 HSU
            clear p0 p1 p2 p3 p4 p5 HCZ
            ((refine ePu 6 ?_))
            (refine wpAnyE_one (i := 7) (o := ?_) ?_ (by kernel_rfl) (fun K hK => ?_); rotate_left; (focus ((simp only [List.getElem?_toArray, List.getElem?_cons_succ, List.getElem?_cons_zero]; exact rfl))); go_simp; go_at_call 13; refine HO3.out.mono ?_; rintro e w8 ⟨la3, lc3, rfl, hc3, hE⟩; go_wp2_with fail; refine hK.out _ _ ?_ (fun hHeld => ?_); rotate_left; clear hK K; (try simp only [Act.put, List.setIfInBounds_toArray, List.set_cons_zero, List.set_cons_succ]))
            rotate_left
            · exact ⟨hE.cell s1, hE.cell s2⟩
            replace E5 := E5.trans hE
            replace s1 := hE.cell s1
            replace s2 := hE.cell s2
            have zs := cell_lt s1
            dsimp only at zs
            have HS3 := Lib.hid (HSU.out la3 lc3 _ hc3)
            clear hE HO3 hc3 HSU hS
            ((refine ePu 8 ?_); (refine ePu 9 ?_); (refine ePu 10 ?_); (refine ePu 11 ?_); (refine ePu 12 ?_); (refine ePu 13 ?_); (refine ePu 14 ?_))
            refine wpAnyE_done (by kernel_rfl) ?_ _
            go_wp2_with fail
            refine HS3.out.mono ?_
            rintro e w9 ⟨rfl, hE⟩
            replace E5 := E5.trans hE
            clear hE s1 s2 zs HS3
            go_wp2_with fail
            refine (HAW.out _ E5).mono ?_
            rintro e wA ⟨rfl, hE⟩
            go_wp2
            go_ret
            exact ⟨rfl, E5.trans hE⟩
    · have ET : Ext w w3 := E3
      have zT := cell_lt y1
      dsimp only at zT
      clear E3 zz HSP HD
      have hk5 : ((K : Int) == 0) = false := by simp; omega
      have hk4 : (0 : Int) < (K : Int) := by omega
      have hq0 : 0 ≤ z.tmod (K : Int) := Int.tmod_nonneg _ hz0
      have hq1 : z.tmod (K : Int) < (K : Int) := Int.tmod_lt_of_pos _ hk4
      obtain ⟨t, ht⟩ : ∃ t : Nat, z.tmod (K : Int) = (t : Int) := ⟨(z.tmod (K : Int)).toNat, by omega⟩
      have htK : t < K := by omega
      clear hq0 hq1
      go_wp2
      refine wp_key (FewX w need pa na N K pc nc) ?tail2 ?reg2
      case reg2 =>
        intro hQ
        refine wp_region_heldE 99 (fun w' => w'.cell? ⟨w.heap.size, 0, none⟩ = some (.slice pa N pc) ∧ w'.cell? ⟨w.heap.size, 1, none⟩ = some (.slice na K nc)) (by kernel_rfl) ?_
        have ED : Ext w3 w3.drew := (Ext.refl _).drew
        have hS := And.intro (ED.cell y1) (ED.cell y2)
        have E4 := ET.trans ED
        clear y1 y2 ET ED zT
        generalize w3.drew = w4 at hS E4 ⊢
        have s1 := hS.1
        have s2 := hS.2
        have zz := cell_lt s1
        dsimp only at zz
        ((refine eTk 0 ?_); (refine eTk 1 ?_); (refine eTk 2 ?_); (refine eTk 3 ?_))
        clear hS
        refine wpAnyE_two (i := 4) (j := 6) (o := ?_) (p := ?_) (by (simp only [List.getElem?_toArray, List.getElem?_cons_succ, List.getElem?_cons_zero]; exact rfl)) (by (simp only [List.getElem?_toArray, List.getElem?_cons_succ, List.getElem?_cons_zero]; exact rfl)) (by kernel_rfl) (fun K hK => ?_) (fun K hK => ?_)
        · go_simp
          go_at_call 28
          refine (HCN.out _ E4).mono ?_
          rintro e w5 ⟨vb, vc, rfl, hO, hvb, hE⟩
          go_wp2_with fail
          refine hK.out _ _ ⟨hE.cell s1, hE.cell s2⟩ (fun hHeld => ?_)
          clear hK K
          (try simp only [Act.put, List.setIfInBounds_toArray, List.set_cons_zero, List.set_cons_succ])
          have HO := Lib.hid hO
          replace E4 : Ext w w5 := E4.trans hE
          replace s1 := hE.cell s1
          replace s2 := hE.cell s2
          have hwg : w.heap.size < vb := by omega
          have hgs : vb < w5.heap.size := hO.lt rfl
          clear hE hO zz hvb
          ((refine ePu 5 ?_))
          have hw5 := E4.size
          (refine wpAnyE_one (i := 6) (o := ?_) ?_ (by kernel_rfl) (fun K hK => ?_); rotate_left; (focus ((simp only [List.getElem?_toArray, List.getElem?_cons_succ, List.getElem?_cons_zero]; exact rfl))); go_simp; refine hK.out _ _ ?_ (fun hHeld => ?_); rotate_left; clear hK K; (try simp only [Act.put, List.setIfInBounds_toArray, List.set_cons_zero, List.set_cons_succ]))
          rotate_left
          · exact ⟨((Ext.refl w5).alloc _).cell s1, ((Ext.refl w5).alloc _).cell s2⟩
          have EA : Ext w5 (w5.alloc (.cells #[.slice none 0 0, .slice none 0 0] 25)) := (Ext.refl _).alloc _
          have NT := NewT.made w5 25
          obtain ⟨lb, hlb⟩ : ∃ lb, lb = w5.heap.size := ⟨_, rfl⟩
          rw [← hlb] at NT ⊢
          have hlw : w.heap.size < lb := by omega
          have hgl : lb ≠ vb := by omega
          replace E4 : Ext w _ := E4.trans EA
          replace s1 := EA.cell s1
          replace s2 := EA.cell s2
          replace HO := Lib.hid (HO.out.ext EA)
          clear EA hlb hgs hw5
          generalize w5.alloc (.cells #[.slice none 0 0, .slice none 0 0] 25) = w7 at NT E4 s1 s2 HO hHeld ⊢
          have hln : w.heap.size ≠ lb := by omega
          have m0 := NT.c0
          have m1 := NT.c1
          have k0 := NT.f0
          have k1 := NT.f1
          (refine wpAnyE_one (i := 7) (o := ?_) ?_ (by kernel_rfl) (fun K hK => ?_); rotate_left; (focus ((simp only [List.getElem?_toArray, List.getElem?_cons_succ, List.getElem?_cons_zero]; exact rfl))); go_simp; refine hK.out _ _ ?_ (fun hHeld => ?_); rotate_left; clear hK K; (try simp only [Act.put, List.setIfInBounds_toArray, List.set_cons_zero, List.set_cons_succ]))
          rotate_left
          · exact ⟨by rw [World.cell?_setCell_other _ _ _ _ (fun e => by cases e), World.cell?_setCell_other _ _ _ _ (fun e => by cases e; exact hln rfl)]; exact s1, by rw [World.cell?_setCell_other _ _ _ _ (fun e => by cases e; exact hln rfl), World.cell?_setCell_other _ _ _ _ (fun e => by cases e)]; exact s2⟩
          refine wpAnyE_done (by kernel_rfl) ?_ _
          refine hQ _ _ ⟨lb, vb, vc, ?_, Below.setCell (p := ⟨lb, 1, none⟩) (Below.setCell (p := ⟨lb, 0, none⟩) E4 (Nat.le_of_lt hlw) _) (Nat.le_of_lt hlw) _, ownsI_setO (ownsI_setO HO.out hgl 0 _) hgl 1 _, hwg, hgl, ?_, ?_, ?_, ?_⟩
          · simp only [Act.put, List.setIfInBounds_toArray, List.set_cons_zero, List.set_cons_succ]
          · rw [World.cell?_setCell_other _ _ _ _ (fun e => by cases e)]
            exact World.cell?_setCell_same _ _ _ m0
          · exact World.cell?_setCell_same _ _ _ ((World.cell?_setCell_other _ _ _ _ (fun e => by cases e)).trans m1)
          · rw [World.cell?_setCell_other _ _ _ _ (fun e => by cases e), World.cell?_setCell_other _ _ _ _ (fun e => by cases e; exact hln rfl)]
            exact s1
          · rw [World.cell?_setCell_other _ _ _ _ (fun e => by cases e; exact hln rfl), World.cell?_setCell_other _ _ _ _ (fun e => by cases e)]
            exact s2
        · have EA : Ext w4 (w4.alloc (.cells #[.slice none 0 0, .slice none 0 0] 25)) := (Ext.refl _).alloc _
          have NT := NewT.made w4 25
          obtain ⟨lb, hlb⟩ : ∃ lb, lb = w4.heap.size := ⟨_, rfl⟩
          go_simp
          refine hK.out _ _ ⟨EA.cell s1, EA.cell s2⟩ (fun hHeld => ?_)
          clear hK K
          (try simp only [Act.put, List.setIfInBounds_toArray, List.set_cons_zero, List.set_cons_succ])
          rw [← hlb] at NT ⊢
          replace E4 := E4.trans EA
          replace s1 := EA.cell s1
          replace s2 := EA.cell s2
          have hlw : w.heap.size < lb := by omega
          have zw := cell_lt NT.c0
          dsimp only at zw
          clear EA hHeld zz hlb
          generalize w4.alloc (.cells #[.slice none 0 0, .slice none 0 0] 25) = w4 at NT E4 s1 s2 zw ⊢
          (refine wpAnyE_one (i := 4) (o := ?_) ?_ (by kernel_rfl) (fun K hK => ?_); rotate_left; (focus ((simp only [List.getElem?_toArray, List.getElem?_cons_succ, List.getElem?_cons_zero]; exact rfl))); go_simp; go_at_call 28; refine (HCN.out _ E4).mono ?_; rintro e w5 ⟨vb, vc, rfl, hO, hvb, hE⟩; go_wp2_with fail; refine hK.out _ _ ?_ (fun hHeld => ?_); rotate_left; clear hK K; (try simp only [Act.put, List.setIfInBounds_toArray, List.set_cons_zero, List.set_cons_succ]))
          rotate_left
          · exact ⟨hE.cell s1, hE.cell s2⟩
          have HO := Lib.hid hO
          replace E4 := E4.trans hE
          replace s1 := hE.cell s1
          replace s2 := hE.cell s2
          replace NT := NT.ext hE
          have hwg : w.heap.size < vb := by omega
          have hgl : lb ≠ vb := by omega
          clear hE hO zw hvb
          ((refine ePu 5 ?_))
          have hln : w.heap.size ≠ lb := by omega
          have m0 := NT.c0
          have m1 := NT.c1
          have k0 := NT.f0
          have k1 := NT.f1
          (refine wpAnyE_one (i := 7) (o := ?_) ?_ (by kernel_rfl) (fun K hK => ?_); rotate_left; (focus ((simp only [List.getElem?_toArray, List.getElem?_cons_succ, List.getElem?_cons_zero]; exact rfl))); go_simp; refine hK.out _ _ ?_ (fun hHeld => ?_); rotate_left; clear hK K; (try simp only [Act.put, List.setIfInBounds_toArray, List.set_cons_zero, List.set_cons_succ]))
          rotate_left
          · exact ⟨by rw [World.cell?_setCell_other _ _ _ _ (fun e => by cases e), World.cell?_setCell_other _ _ _ _ (fun e => by cases e; exact hln rfl)]; exact s1, by rw [World.cell?_setCell_other _ _ _ _ (fun e => by cases e; exact hln rfl), World.cell?_setCell_other _ _ _ _ (fun e => by cases e)]; exact s2⟩
          refine wpAnyE_done (by kernel_rfl) ?_ _
          refine hQ _ _ ⟨lb, vb, vc, ?_, Below.setCell (p := ⟨lb, 1, none⟩) (Below.setCell (p := ⟨lb, 0, none⟩) E4 (Nat.le_of_lt hlw) _) (Nat.le_of_lt hlw) _, ownsI_setO (ownsI_setO HO.out hgl 0 _) hgl 1 _, hwg, hgl, ?_, ?_, ?_, ?_⟩
          · simp only [Act.put, List.setIfInBounds_toArray, List.set_cons_zero, List.set_cons_succ]
          · rw [World.cell?_setCell_other _ _ _ _ (fun e => by cases e)]
            exact World.cell?_setCell_same _ _ _ m0
          · exact World.cell?_setCell_same _ _ _ ((World.cell?_setCell_other _ _ _ _ (fun e => by cases e)).trans m1)
          · rw [World.cell?_setCell_other _ _ _ _ (fun e => by cases e), World.cell?_setCell_other _ _ _ _ (fun e => by cases e; exact hln rfl)]
            exact s1
          · rw [World.cell?_setCell_other _ _ _ _ (fun e => by cases e; exact hln rfl), World.cell?_setCell_other _ _ _ _ (fun e => by cases e)]
            exact s2
      case tail2 =>
        clear y1 y2 ET zT
        rintro a W ⟨lb, vb, vc, rfl, E4, hO, hwv, hlv, m0, m1, s1, s2⟩
        simp only [Act.put, List.setIfInBounds_toArray, List.set_cons_zero, List.set_cons_succ]
        obtain ⟨d1, d2⟩ := hO.at (i := t) (by rw [← HK.out]; exact htK)
        have HVC : Hid (K ≤ vc ∧ vc ≤ maxLen) := by
          obtain ⟨_, _, hv9, _, hv1, hv2⟩ := hO.full
          obtain ⟨_, e8, e9⟩ := Value.slice.inj hv9
          rw [← e8, ← e9] at hv1
          rw [← e9] at hv2
          exact ⟨hv1, hv2⟩
        have hxb := HNB.out t htK
        have HFM := Lib.hid (fun mx h0 h1 => fewer_of (mx := mx) (t := t) (need := need) (by rw [← HK.out]; exact htK) HSE.out.nd h0 h1)
        generalize need.getD t 0 = x at d1 hxb HFM
        have q1 : IntKind.i64.wrap (x - 1) = x - 1 := IntWalk.i64_in _ (by omega)
        obtain ⟨mx, hmx⟩ : ∃ mx, max 0 (x - 1) = mx := ⟨_, rfl⟩
        have hmx0 : 0 ≤ mx ∧ mx ≤ x := by omega
        obtain ⟨n1, n2, n3⟩ := HFM.out mx hmx0.1 hmx0.2
        have HMX := Lib.hid hmx
        have HOS := Lib.hid hO
        have zl := cell_lt m0
        have zv := cell_lt d1
        have zs := cell_lt s1
        dsimp only at zl zv zs
        clear hmx hmx0 HFM hO
        go_wp2
        refine wp_region_heldE 11 (fun w' => w'.cell? ⟨lb, 1, none⟩ = some (.slice (some ⟨vb, 0, none⟩) K vc) ∧ w'.cell? ⟨vb, t, none⟩ = some (.int .i64 x)) (by kernel_rfl) ?_
        have ED : Ext W W.drew := (Ext.refl _).drew
        have hS : W.drew.cell? ⟨lb, 1, none⟩ = some (.slice (some ⟨vb, 0, none⟩) K vc) ∧ W.drew.cell? ⟨vb, t, none⟩ = some (.int .i64 x) := ⟨m1, d1⟩
        replace E4 := E4.trans ED
        replace m0 := ED.cell m0
        replace m1 := ED.cell m1
        replace d1 := ED.cell d1
        replace s1 := ED.cell s1
        replace s2 := ED.cell s2
        replace HOS := Lib.hid (HOS.out.ext ED)
        have d3 : W.drew.frozen? ⟨vb, t, none⟩ = false := d2
        clear ED d2 zl zv zs
        generalize W.drew = W at hS E4 m0 m1 d1 s1 s2 HOS d3 ⊢
        ((refine eTk 0 ?_); (refine eTk 1 ?_); (refine eTk 2 ?_); (refine eTk 3 ?_); (refine eTk 4 ?_); (refine eTk 5 ?_); (refine eTk 6 ?_); (refine eTk 7 ?_); (refine eTk 8 ?_))
        (refine wpAnyE_pure (v := .int .i64 mx) (i := 9) (oi := ?_) ?_ (by kernel_rfl) ?_ ?_ ?_ ?_; rotate_left; (focus ((simp only [List.getElem?_toArray, List.getElem?_cons_succ, List.getElem?_cons_zero]; exact rfl))); (focus (exact fun _ _ _ h => h)); (focus (refine Or.inl ⟨by rfl, ?_⟩; intro w hSw; clear hSw; go_simp; exact HMX.out)); (focus (first | exact (fun _ => by assumption) | (intro hlst; exact absurd hlst (by kernel_rfl)) | (intro hlst; cases hlst))); (try simp only [Act.put, List.setIfInBounds_toArray, List.set_cons_zero, List.set_cons_succ]))
        (refine eTk 10 ?_)
        (refine wpAnyE_free (i := 11) (o := ?_) ?_ (by kernel_rfl) (by kernel_rfl) (fun K hK => ?_); rotate_left; (focus ((simp only [List.getElem?_toArray, List.getElem?_cons_succ, List.getElem?_cons_zero]; exact rfl))); go_simp; refine hK.out _ _ ?_; clear hK K; (try simp only [Act.put, List.setIfInBounds_toArray, List.set_cons_zero, List.set_cons_succ]))
        refine wpAnyE_done (by kernel_rfl) ?_ _
        have hvw : w.heap.size ≠ vb := by omega
        have hc2 : ∀ b o, b ≠ vb → (W.setCell ⟨vb, t, none⟩ (.int .i64 mx)).cell? ⟨b, o, none⟩ = W.cell? ⟨b, o, none⟩ := fun b o hb => World.cell?_setCell_other _ _ _ _ (fun e => by cases e; exact hb rfl)
        have E5 : Ext w (W.setCell ⟨vb, t, none⟩ (.int .i64 mx)) := Below.setCell (p := ⟨vb, t, none⟩) E4 (Nat.le_of_lt hwv) _
        replace m0 := (hc2 lb 0 hlv).trans m0
        replace m1 := (hc2 lb 1 hlv).trans m1
        replace s1 := (hc2 _ 0 hvw).trans s1
        replace s2 := (hc2 _ 1 hvw).trans s2
        have hOS := HOS.out.set t mx
        have HT2 : Hid (TaskG (W.setCell ⟨vb, t, none⟩ (.int .i64 mx)) pks (need.set t mx) pa pc (some ⟨vb, 0, none⟩) vc) := ⟨HT.out.pk.ext E5, by
          obtain ⟨_, _, hv9, hc9, _⟩ := hOS.full
          rw [(Value.slice.inj hv9).1]
          exact hc9, HT.out.p1, HT.out.p2, by rw [n1, ← HK.out]; exact HVC.out.1, HVC.out.2⟩
        have HO2 := Lib.hid (Order_any HT2.out)
        unfold OrdP taskV at HO2
        rw [n1, ← HK.out, ← HN.out] at HO2
        have HF2 := Lib.hid (HFW.out HSE.out _ n1 n2 n3)
        generalize orderL pks (need.set t mx) = ol2 at HO2
        generalize orderP pks (need.set t mx) = op2 at HO2 HF2
        generalize orderE pks (need.set t mx) = oe2 at HO2 HF2
        clear hOS HOS d1 d3 hS E4 n1 n2 n3 HT2 hc2 q1 HMX HVC
        generalize W.setCell ⟨vb, t, none⟩ (.int .i64 mx) = W at E5 m0 m1 s1 s2 HO2 ⊢
        have zl := cell_lt m0
        have zs := cell_lt s1
        dsimp only at zl zs
        go_wp2_with fail
        refine HO2.out.mono ?_
        rintro e w6 ⟨la2, lc2, rfl, _, hE⟩
        replace E5 := E5.trans hE
        replace s1 := hE.cell s1
        replace s2 := hE.cell s2
        have zs := cell_lt s1
        dsimp only at zs
        clear hE m0 m1 zl HO2
        go_wp2
        refine wp_region_heldE 99 (fun w' => w'.cell? ⟨w.heap.size, 0, none⟩ = some (.slice pa N pc) ∧ w'.cell? ⟨w.heap.size, 1, none⟩ = some (.slice na K nc)) (by kernel_rfl) ?_
        have ED : Ext w6 w6.drew := (Ext.refl _).drew
        have hS := And.intro (ED.cell s1) (ED.cell s2)
        replace E5 := E5.trans ED
        clear s1 s2 ED zs
        generalize w6.drew = w6 at hS E5 ⊢
        have s1 := hS.1
        have s2 := hS.2
        have zs := cell_lt s1
        dsimp only at zs
        ((refine eTk 0 ?_); (refine eTk 1 ?_); (refine eTk 2 ?_); (refine eTk 3 ?_); (refine eTk 4 ?_))
        obtain ⟨w7, hr, hcz, hE⟩ := zeros_run w6 K (by omega)
        obtain ⟨Kv, hKv⟩ : ∃ Kv : Value, Kv = .int .i64 (K : Int) := ⟨_, rfl⟩
        rw [← hKv] at hr
        have HR := Lib.hid hr
        have HCZ := Lib.hid hcz
        (refine wpAnyE_one (i := 5) (o := ?_) ?_ (by kernel_rfl) (fun K hK => ?_); rotate_left; (focus ((simp only [List.getElem?_toArray, List.getElem?_cons_succ, List.getElem?_cons_zero]; exact rfl))); refine step_make rfl _ _ 23 rfl Kv Kv (by rw [hKv]; rfl) (by rw [hKv]; rfl) _ _ HR.out ?_; refine hK.out _ _ ?_ (fun hHeld => ?_); rotate_left; clear hK K; (try simp only [Act.put, List.setIfInBounds_toArray, List.set_cons_zero, List.set_cons_succ]))
        rotate_left
        · exact ⟨hE.cell s1, hE.cell s2⟩
        replace E5 := E5.trans hE
        replace s1 := hE.cell s1
        replace s2 := hE.cell s2
        have zs := cell_lt s1
        dsimp only at zs
        clear hE hr hcz HR hKv
        obtain ⟨p0, p1, p2, p3, p4, p5⟩ := HNO.out
        have HO3 := Lib.hid (Order_any (pks := pks) (need := List.replicate K 0) (pa := pa) (pc := pc) (na := some ⟨w6.heap.size, 0, none⟩) (nc := K) (w := w7) ⟨HT.out.pk.ext E5, HCZ.out, HT.out.p1, HT.out.p2, by rw [List.length_replicate]; exact Nat.le_refl _, by unfold maxLen; omega⟩)
        unfold OrdP taskV at HO3
        rw [List.length_replicate, p1, p2, p3, ← HN.out] at HO3
        rw [p3, ← HN.out] at p5
        have HSU : Hid (∀ (a9 : Option Addr) (c9 : Nat) W, CellsI W a9 (orderL pks (List.replicate K 0)) → Calls Tryz.prog 29 #[.slice a9 N c9] W fun e w' => e = .returned (.int .i64 0) ∧ Ext W w') := fun a9 c9 W hc => by
          have h := sumI_any _ a9 c9 W hc (by rw [p3, ← HN.out]; omega) (fun i hi => p5 i (by rw [p3, ← HN.out] at hi; exact hi))
          rw [p3, p4, ← HN.out] at h
          exact h
        generalize orderL pks (List.replicate K 0) = ol3 at HO3 HSU
        clear p0 p1 p2 p3 p4 p5 HCZ
        ((refine ePu 6 ?_))
        (refine wpAnyE_one (i := 7) (o := ?_) ?_ (by kernel_rfl) (fun K hK => ?_); rotate_left; (focus ((simp only [List.getElem?_toArray, List.getElem?_cons_succ, List.getElem?_cons_zero]; exact rfl))); go_simp; go_at_call 13; refine HO3.out.mono ?_; rintro e w8 ⟨la3, lc3, rfl, hc3, hE⟩; go_wp2_with fail; refine hK.out _ _ ?_ (fun hHeld => ?_); rotate_left; clear hK K; (try simp only [Act.put, List.setIfInBounds_toArray, List.set_cons_zero, List.set_cons_succ]))
        rotate_left
        · exact ⟨hE.cell s1, hE.cell s2⟩
        replace E5 := E5.trans hE
        replace s1 := hE.cell s1
        replace s2 := hE.cell s2
        have zs := cell_lt s1
        dsimp only at zs
        have HS3 := Lib.hid (HSU.out la3 lc3 _ hc3)
        clear hE HO3 hc3 HSU hS
        ((refine ePu 8 ?_); (refine ePu 9 ?_); (refine ePu 10 ?_); (refine ePu 11 ?_); (refine ePu 12 ?_); (refine ePu 13 ?_); (refine ePu 14 ?_))
        refine wpAnyE_done (by kernel_rfl) ?_ _
        go_wp2_with fail
        refine HS3.out.mono ?_
        rintro e w9 ⟨rfl, hE⟩
        replace E5 := E5.trans hE
        clear hE s1 s2 zs HS3
        go_wp2_with fail
        refine (HAW.out _ E5).mono ?_
        rintro e wA ⟨rfl, hE⟩
        go_wp2
        go_ret
        exact ⟨rfl, E5.trans hE⟩
end Go.Proofs.YtmndcdjcodfchaaGreatDoor
