/- Steps of the proof: URest, URefP, RegE, ULev, UDearP, UDear, UOrd, FFrac, FNum, FFit, FOrd, FSpec, FRing, UFrac, UBndP, FTrimR, FPlusR, FLessR, FTimesR, FOrdR, FCmp. No conditions. -/
import Derived.Test.YtmndcdjcodfchaaGreatDoorZUB1
import Derived.Test.YtmndcdjcodfchaaGreatDoorZUB2
namespace Go.Proofs.YtmndcdjcodfchaaGreatDoor
open Go.RowKit
theorem more_end {pks : List Pk} {need order l : List Int} (hl : l.length = need.length) (h : ∀ t, t < need.length → l.getD t 0 = (moreS pks need order).getD t 0) : l = moreS pks need order :=
  ext_getD2 (by rw [hl, moreS_len]) (fun i hi => h i (by omega))
theorem ArrI.put {w : World} {b : Nat} {l : List Int} (h : ArrI w b l) {n : Nat} (hb : n ≤ b) {W : World} (hW : Below n W w) {i : Nat} (hi : i < l.length) (x : Int) : ArrI (w.setCell ⟨b, i, none⟩ (.int .i64 x)) b (l.set i x) ∧ Below n W (w.setCell ⟨b, i, none⟩ (.int .i64 x)) :=
  ⟨h.set hi x, Below.setCell (p := ⟨b, i, none⟩) hW hb _⟩
set_option maxHeartbeats 8000000 in
theorem rest_any {pks : List Pk} {need order : List Int} {pa : Option Addr} {pc : Nat} {na : Option Addr} {nc : Nat} {oa : Option Addr} {oc : Nat} {w : World} (ht : TaskG w pks need pa pc na nc) (ho : CellsI w oa order) (hg : Gives pks need order) :
    Calls Tryz.prog 62 #[taskV pks need pa pc na nc, .slice oa order.length oc] w fun e w' => SliceP (moreS pks need order) w e w' := by
  unfold taskV SliceP
  have HP := Lib.hid ht.pk
  have HO := Lib.hid ho
  have HG := Lib.hid hg
  have HD := Lib.hid ht.nd
  obtain ⟨N, hN⟩ : ∃ N, N = pks.length := ⟨_, rfl⟩
  obtain ⟨K, hK⟩ : ∃ K, K = need.length := ⟨_, rfl⟩
  have hNl := hg.r.pl
  have hK16 := hg.r.k1
  have hK0 := hg.r.k0
  rw [moreS_len, hg.len, ← hN, ← hK]
  rw [← hN] at hNl
  rw [← hK] at hK16 hK0
  have HN := Lib.hid hN
  have HK := Lib.hid hK
  have HF : Hid (∀ l : List Int, l.length = K → (∀ t, t < K → l.getD t 0 = (moreS pks need order).getD t 0) → l = moreS pks need order) := fun l h1 h2 => more_end (by rw [h1, hK]) (by rw [← hK]; exact h2)
  have HV : Hid (∀ k, k < K → (moreS pks need order).getD k 0 = dotT (fun p => p.parts.getD k 0) pks order N - need.getD k 0) := fun k hk => by
    rw [moreS_get _ _ _ (by omega)]
    have := dotT_full (fun p => p.parts.getD k 0) hg.len hN
    rw [this]; rfl
  generalize moreS pks need order = full at HF HV ⊢
  clear ht hN hK ho hg
  have E0 : Ext w (w.alloc (.cells #[.slice pa N pc, .slice na K nc] 25)) := (Ext.refl _).alloc _
  have y1 : (w.alloc (.cells #[.slice pa N pc, .slice na K nc] 25)).cell? ⟨w.heap.size, 0, none⟩ = some (.slice pa N pc) := by go_simp
  have y2 : (w.alloc (.cells #[.slice pa N pc, .slice na K nc] 25)).cell? ⟨w.heap.size, 1, none⟩ = some (.slice na K nc) := by go_simp
  go_enter Tryz.func62, Tryz.ntmps62
  obtain ⟨i0, hi, hi0, hi1, hi2⟩ := info_parts infoIn
  go_wp2_with (at_make; refine wpList_make_full _ rfl _ _ 23 rfl 0 3 i0 (.int .i64 0) 1 Tryz.underlying23 hi hi0 hi1 _ _ _ _ K rfl rfl rfl rfl ?b2 ?b3 ?b4 ?hK)
  case b2 => rw [hi2]; omega
  case b3 => unfold maxLen; omega
  case b4 => exact Nat.zero_le _
  case hK =>
    intro w3 hown hgr
    have hsz : (w.alloc (.cells #[.slice pa N pc, .slice na K nc] 25)).heap.size = w.heap.size + 1 := by
      show (w.heap.push _).size = _
      exact Array.size_push _
    generalize w.alloc (.cells #[.slice pa N pc, .slice na K nc] 25) = W at E0 y1 y2 hown hgr hsz ⊢
    obtain ⟨ob, hob⟩ : ∃ ob, ob = w.heap.size + 1 := ⟨_, rfl⟩
    have E3 : Ext W w3 := ⟨hgr.os, hgr.tape, hgr.output, hgr.size, fun k hk => hgr.block k hk (by simp)⟩
    have HA : Hid (∃ l : List Int, l.length = K ∧ ArrI w3 ob l ∧ ∀ t, t < 0 → l.getD t 0 = full.getD t 0) := ⟨List.replicate K 0, by simp, fun j hj => by
      rw [List.length_replicate] at hj
      rw [hob]
      refine ⟨?_, hown.frozenAt j⟩
      rw [hown.cellAt j (by omega)]
      simp [madeCells, hj, Nat.mod_one, List.getD], fun t ht => absurd ht (Nat.not_lt_zero t)⟩
    have HOB : Hid (W.heap.size ≤ ob ∧ w.heap.size ≤ ob) := by have := E0.size; exact ⟨by omega, by omega⟩
    rw [← hob]
    have hw : w.heap.size < W.heap.size := cell_lt y1
    have hnob : w.heap.size ≠ ob := by omega
    clear hob hsz hown hgr hi hi0 hi1 hi2 i0
    have Y1 := Lib.hid y1
    have Y2 := Lib.hid y2
    have y1 := E3.cell y1
    have y2 := E3.cell y2
    have zy := cell_lt y1
    dsimp only at zy
    go_wp2
    go_loopw [17] (fun t wr => ∃ k : Nat, k ≤ K ∧ t = .int .i64 k ∧ Hid (∃ l : List Int, l.length = K ∧ ArrI wr ob l ∧ ∀ t, t < k → l.getD t 0 = full.getD t 0) ∧ Ext W wr) (fun t _ => K - (intOf t).toNat)
    case atStart => exact ⟨0, Nat.zero_le _, rfl, HA.out, E3⟩
    case round =>
      clear HA y1 y2 zy E3
      obtain ⟨k, hkK, rfl, hl, he⟩ := hrel
      by_cases hlt : k < K
      · have hlt' : (k : Int) < (K : Int) := by omega
        obtain ⟨l, l1, l2, l3⟩ := hl.out
        have EK := E0.trans he
        have hkn : k < need.length := by rw [← HK.out]; exact hlt
        obtain ⟨b2, off2, rfl, c4⟩ := HD.out.ext EK k hkn
        have hnb := HG.out.r.nd _ (getD_mem (d := 0) hkn)
        have hv := HV.out k hlt
        obtain ⟨e1, e2⟩ := l2 k (by rw [l1]; exact hlt)
        obtain ⟨P1, P2⟩ := l2.put HOB.out.1 he (i := k) (by rw [l1]; exact hlt) (-(need.getD k 0))
        have HL : Hid (∃ m : List Int, m.length = K ∧ ArrI (wr.setCell ⟨ob, k, none⟩ (.int .i64 (-(need.getD k 0)))) ob m ∧ (∀ t, t < k → m.getD t 0 = full.getD t 0) ∧ m.getD k 0 = dotT (fun p => p.parts.getD k 0) pks order 0 - need.getD k 0) := by
          refine ⟨_, by rw [List.length_set]; exact l1, P1, fun t ht => ?_, ?_⟩
          · rw [getD_set (by omega), if_neg (by omega)]
            exact l3 t ht
          · rw [getD_set (by omega), if_pos rfl, dotT_zero]; omega
        have HP2 := Lib.hid P2
        have HVV := Lib.hid hv
        have HB : Hid (∀ j, j ≤ N → 0 ≤ dotT (fun p => p.parts.getD k 0) pks order j ∧ dotT (fun p => p.parts.getD k 0) pks order j ≤ 70368744177664) := fun j hj => amtT_bd HG.out k hkn j (by rw [← HN.out]; exact hj)
        have HSU : Hid (∀ j, j < N → dotT (fun p => p.parts.getD k 0) pks order (j + 1) = dotT (fun p => p.parts.getD k 0) pks order j + order.getD j 0 * (pks.getD j pk0).parts.getD k 0) := fun j hj => dotT_succ (fun p => p.parts.getD k 0) (by rw [← HN.out]; exact hj) (by rw [HG.out.len, ← HN.out]; exact hj)
        generalize need.getD k 0 = x at c4 hnb HL HP2 HVV
        have q1 : IntKind.i64.wrap (-x) = -x := IntWalk.i64_in _ (by omega)
        have zc := cell_lt c4
        have ze := cell_lt e1
        dsimp only at zc ze
        have a1 := he.cell Y1.out
        have a2 := he.cell Y2.out
        have za := cell_lt a1
        dsimp only at za
        clear hl l2 l3 P1 P2 hv hkn l1
        go_wp2
        go_loopw [29] (fun t wz => ∃ j : Nat, j ≤ N ∧ t = .int .i64 j ∧ Hid (∃ m : List Int, m.length = K ∧ ArrI wz ob m ∧ (∀ t, t < k → m.getD t 0 = full.getD t 0) ∧ m.getD k 0 = dotT (fun p => p.parts.getD k 0) pks order j - x) ∧ Ext W wz) (fun t _ => N - (intOf t).toNat)
        case atStart => exact ⟨0, Nat.zero_le _, rfl, HL.out, HP2.out⟩
        case round =>
          clear HL HP2 a1 a2 za zc ze e1 e2 c4 he EK
          obtain ⟨j, hjN, rfl, hl, he⟩ := hrel
          by_cases hjl : j < N
          · have hjl' : (j : Int) < (N : Int) := by omega
            obtain ⟨m, m1, m2, m3, m4⟩ := hl.out
            have EK := E0.trans he
            have hi : j < pks.length := by rw [← HN.out]; exact hjl
            obtain ⟨b, off, v, rfl, c1, cs, c2, c3⟩ := (HP.out.ext EK) j hi
            obtain ⟨ai, ci, rfl, cs, _, _⟩ := cs
            have hpl := HG.out.r.parts _ (getD_mem (d := pk0) hi)
            obtain ⟨b3, off3, rfl, c5⟩ := cs k (by rw [hpl, ← HK.out]; exact hlt)
            rw [hpl, ← HK.out] at c1
            obtain ⟨b2, off2, rfl, c4⟩ := HO.out.ext EK j (by rw [HG.out.len]; exact hi)
            obtain ⟨e1, e2⟩ := m2 k (by rw [m1]; exact hlt)
            rw [m4] at e1
            have hs := HSU.out j hjl
            have hb1 := HB.out j (by omega)
            have hb2 := HB.out (j + 1) (by omega)
            have hb3 := gives_bd HG.out j hi
            have hb4 := HG.out.r.num _ (getD_mem (d := pk0) hi) _ (getD_mem (d := 0) (i := k) (by rw [hpl, ← HK.out]; exact hlt))
            rw [hs] at hb2
            have HM : Hid (∀ z : Int, z = dotT (fun p => p.parts.getD k 0) pks order (j + 1) - x → ∃ m' : List Int, m'.length = K ∧ ArrI (wr.setCell ⟨ob, k, none⟩ (.int .i64 z)) ob m' ∧ (∀ t, t < k → m'.getD t 0 = full.getD t 0) ∧ m'.getD k 0 = dotT (fun p => p.parts.getD k 0) pks order (j + 1) - x) := fun z hz => by
              refine ⟨_, by rw [List.length_set]; exact m1, (m2.put HOB.out.1 he (i := k) (by rw [m1]; exact hlt) z).1, fun t ht => ?_, ?_⟩
              · rw [getD_set (by omega), if_neg (by omega)]
                exact m3 t ht
              · rw [getD_set (by omega), if_pos rfl, hz]
            have HX : Hid (∀ z : Int, Ext W (wr.setCell ⟨ob, k, none⟩ (.int .i64 z))) := fun z => (m2.put HOB.out.1 he (i := k) (by rw [m1]; exact hlt) z).2
            rw [hs] at HM
            have HS2 := Lib.hid hs
            generalize (pks.getD j pk0).parts.getD k 0 = y at c5 hb4 hb2 HM HS2
            generalize order.getD j 0 = o at c4 hb3 hb2 HM HS2
            generalize dotT (fun p => p.parts.getD k 0) pks order j = s at HM hb1 hb2 e1 m4 HS2
            have hmx : 0 ≤ o * y ∧ o * y ≤ 1099511627776 := ⟨Int.mul_nonneg hb3.1 hb4.1, Int.mul_le_mul hb3.2 hb4.2 hb4.1 (by omega)⟩
            have q1 : IntKind.i64.wrap (o * y) = o * y := IntWalk.i64_in _ (by omega)
            have q2 : IntKind.i64.wrap (s - x + o * y) = s - x + o * y := IntWalk.i64_in _ (by omega)
            have q3 := HM.out (s - x + o * y) (by omega)
            have HM3 := Lib.hid q3
            have a1 := he.cell Y1.out
            have za := cell_lt a1
            have zb := cell_lt c1
            have zc := cell_lt c4
            have zd := cell_lt c5
            have ze := cell_lt e1
            dsimp only at za zb zc zd ze
            have HEE := Lib.hid he
            clear hs hb1 hb2 hb3 hb4 hi hl m1 m2 m3 m4 cs c2 c3 hpl HM q3 EK he
            go_wp2
            go_region
            go_wp2
            refine ⟨⟨j + 1, by omega, by go_num, ?_, (HX.out _).drew⟩, by simp [intOf]; omega⟩
            obtain ⟨m', g1, g2, g3, g4⟩ := HM3.out
            exact ⟨m', g1, g2.ext (Ext.refl _).drew, g3, by rw [HS2.out]; exact g4⟩
          · have hje : j = N := by omega
            subst hje
            have hjl' : ¬ (j : Int) < (j : Int) := by omega
            have HL2 : Hid (∃ l : List Int, l.length = K ∧ ArrI wr ob l ∧ ∀ t, t < k + 1 → l.getD t 0 = full.getD t 0) := by
              obtain ⟨m, m1, m2, m3, m4⟩ := hl.out
              refine ⟨m, m1, m2, fun t ht => ?_⟩
              rcases Nat.lt_or_eq_of_le (Nat.le_of_lt_succ ht) with h2 | rfl
              · exact m3 t h2
              · rw [m4, HVV.out]
            go_wp2
            exact ⟨⟨k + 1, by omega, by go_num, HL2, he⟩, by simp [intOf]; omega⟩
      · have hke : k = K := by omega
        subst hke
        have hlt' : ¬ (k : Int) < (k : Int) := by omega
        go_wp2
        go_ret
        obtain ⟨l, l1, l2, l3⟩ := hl.out
        have hf := HF.out l l1 l3
        subst hf
        exact ⟨_, _, rfl, l2.cells, Nat.le_refl _, by unfold maxLen; omega, E0.trans he⟩
theorem verify_bad {pks : List Pk} {need order : List Int} (h : givenS pks need order ≠ 0) : verifyS pks need order = givenS pks need order ∧ restL pks need order = [] := by
  have : verifyS pks need order = givenS pks need order := by unfold verifyS; rw [if_pos h]
  exact ⟨this, by unfold restL; rw [if_neg (by rw [this]; exact h)]⟩
theorem verify_lack {pks : List Pk} {need order : List Int} (h : givenS pks need order = 0) (h2 : (moreS pks need order).any lackB = true) : verifyS pks need order = 15 ∧ restL pks need order = [] := by
  have : verifyS pks need order = 15 := by unfold verifyS; rw [if_neg (by rw [h]; simp), if_pos h2]
  exact ⟨this, by unfold restL; rw [if_neg (by rw [this]; simp)]⟩
theorem verify_ok {pks : List Pk} {need order : List Int} (h : givenS pks need order = 0) (h2 : (moreS pks need order).any lackB = false) : verifyS pks need order = 0 ∧ restL pks need order = moreS pks need order := by
  have : verifyS pks need order = 0 := by unfold verifyS; rw [if_neg (by rw [h]; simp), if_neg (by rw [h2]; simp)]
  exact ⟨this, by unfold restL; rw [if_pos this]⟩
set_option maxHeartbeats 2000000 in
theorem Rest_any {pks : List Pk} {need order : List Int} {pa : Option Addr} {pc : Nat} {na : Option Addr} {nc : Nat} {oa : Option Addr} {oc : Nat} {w : World} (ht : TaskG w pks need pa pc na nc) (ho : CellsI w oa order) (hol : order.length ≤ maxLen) :
    Calls Tryz.prog 21 #[taskV pks need pa pc na nc, .slice oa order.length oc] w fun e w' => SliceE (restL pks need order) (verifyS pks need order) w e w' := by
  have H1 := Lib.hid (fun w' (he : Ext w w') => given_any (oc := oc) (ht.ext he) (ho.ext he) hol)
  have H2 := Lib.hid (fun w' (he : Ext w w') hg => rest_any (oc := oc) (ht.ext he) (ho.ext he) hg)
  have HL : Hid (givenS pks need order = 0 → (moreS pks need order).length ≤ maxLen) := fun h => by
    rw [moreS_len]
    have := (gives_of h).r.k1
    unfold maxLen; omega
  obtain ⟨r, hr⟩ : ∃ r, givenS pks need order = r := ⟨_, rfl⟩
  obtain ⟨c, hc⟩ : ∃ c, verifyS pks need order = c := ⟨_, rfl⟩
  obtain ⟨l, hl⟩ : ∃ l, restL pks need order = l := ⟨_, rfl⟩
  rw [hr] at H1
  rw [hl, hc]
  have HR := Lib.hid hr
  have HCC := Lib.hid hc
  have HLL := Lib.hid hl
  unfold SliceP at H2
  unfold taskV at H1 H2 ⊢
  unfold SliceE
  clear ht ho hol hr hc hl
  have E0 : Ext w (w.alloc (.cells #[.slice pa pks.length pc, .slice na need.length nc] 25)) := (Ext.refl _).alloc _
  have y1 : (w.alloc (.cells #[.slice pa pks.length pc, .slice na need.length nc] 25)).cell? ⟨w.heap.size, 0, none⟩ = some (.slice pa pks.length pc) := by go_simp
  have y2 : (w.alloc (.cells #[.slice pa pks.length pc, .slice na need.length nc] 25)).cell? ⟨w.heap.size, 1, none⟩ = some (.slice na need.length nc) := by go_simp
  go_enter Tryz.func21, Tryz.ntmps21
  go_wp2_with fail
  refine (H1.out _ E0).mono ?_
  rintro e w1 ⟨rfl, hE⟩
  have E1 := E0.trans hE
  have a1 := hE.cell y1
  have a2 := hE.cell y2
  have za := cell_lt a1
  dsimp only at za
  clear hE E0 y1 y2 H1
  by_cases h0 : r = 0
  · subst h0
    have HLM := Lib.hid (HL.out HR.out)
    have HRR := Lib.hid (show ∀ b, (moreS pks need order).any lackB = b → (b = true → c = 15 ∧ l = []) ∧ (b = false → c = 0 ∧ l = moreS pks need order) from fun b hb => ⟨fun h => by
      subst h
      have := verify_lack HR.out hb
      rw [HCC.out, HLL.out] at this; exact this, fun h => by
      subst h
      have := verify_ok HR.out hb
      rw [HCC.out, HLL.out] at this; exact this⟩)
    have H3 := Lib.hid (H2.out w1 E1 (gives_of HR.out))
    generalize moreS pks need order = m at H3 HLM HRR
    clear H2 HL
    go_wp2_with fail
    refine H3.out.mono ?_
    rintro e w2 ⟨ma, mc, rfl, hm, hm1, hm2, hE⟩
    have HM := Lib.hid hm
    have HM1 := Lib.hid (show _ ∧ _ from ⟨hm1, hm2⟩)
    have E2 := E1.trans hE
    clear hm hm1 hm2 hE E1 a1 a2 za H3
    go_wp2_with fail
    refine (ContainsLack_any m m.length ma mc _ rfl HLM.out HM.out).mono ?_
    rintro e w3 ⟨rfl, hE⟩
    have E3 := E2.trans hE
    cases hb : m.any lackB
    case true =>
      obtain ⟨rfl, rfl⟩ := (HRR.out _ hb).1 rfl
      clear hb HRR
      go_wp2
      go_ret2
      exact ⟨none, 0, rfl, fun i hi => by simp at hi, Nat.le_refl _, Nat.zero_le _, E3⟩
    obtain ⟨rfl, rfl⟩ := (HRR.out _ hb).2 rfl
    have HM3 := Lib.hid (HM.out.ext hE)
    clear hb HRR
    go_wp2
    go_ret2
    exact ⟨ma, mc, rfl, HM3.out, HM1.out.1, HM1.out.2, E3⟩
  · have k1 : (r == 0) = false := by simp [h0]
    have hv := verify_bad (pks := pks) (need := need) (order := order) (by rw [HR.out]; exact h0)
    rw [HCC.out, HLL.out, HR.out] at hv
    obtain ⟨rfl, rfl⟩ := hv
    go_wp2
    go_ret2
    exact ⟨none, 0, rfl, fun i hi => by simp at hi, Nat.le_refl _, Nat.zero_le _, E1⟩
set_option maxHeartbeats 2000000 in
theorem Verify_any {pks : List Pk} {need order : List Int} {pa : Option Addr} {pc : Nat} {na : Option Addr} {nc : Nat} {oa : Option Addr} {oc : Nat} {w : World} (ht : TaskG w pks need pa pc na nc) (ho : CellsI w oa order) (hol : order.length ≤ maxLen) :
    Calls Tryz.prog 25 #[taskV pks need pa pc na nc, .slice oa order.length oc] w fun e w' => e = .returned (.int .i64 (verifyS pks need order)) ∧ Ext w w' := by
  have H1 := Lib.hid (fun w' (he : Ext w w') => Rest_any (oc := oc) (ht.ext he) (ho.ext he) hol)
  unfold SliceE at H1
  unfold taskV at H1 ⊢
  generalize verifyS pks need order = c at H1 ⊢
  generalize restL pks need order = l at H1
  clear ht ho hol
  have E0 : Ext w (w.alloc (.cells #[.slice pa pks.length pc, .slice na need.length nc] 25)) := (Ext.refl _).alloc _
  have y1 : (w.alloc (.cells #[.slice pa pks.length pc, .slice na need.length nc] 25)).cell? ⟨w.heap.size, 0, none⟩ = some (.slice pa pks.length pc) := by go_simp
  have y2 : (w.alloc (.cells #[.slice pa pks.length pc, .slice na need.length nc] 25)).cell? ⟨w.heap.size, 1, none⟩ = some (.slice na need.length nc) := by go_simp
  go_enter Tryz.func25, Tryz.ntmps25
  go_wp2_with fail
  refine (H1.out _ E0).mono ?_
  rintro e w1 ⟨a, cap, rfl, _, _, _, hE⟩
  have E1 := E0.trans hE
  go_wp2
  go_ret
  exact ⟨rfl, E1⟩
end Go.Proofs.YtmndcdjcodfchaaGreatDoor
namespace Go.Proofs.YtmndcdjcodfchaaGreatDoor
structure Lv where
  has : Int
  least : Int
  lot : Int
def lv0 : Lv := ⟨0, 0, 0⟩
def badLv (x : Lv) : Bool := [x.has, x.least, x.lot].any isNeg || decide (x.lot = 0)
def fillS (x : Lv) : Int := (max 0 (x.least - x.has) + x.lot - 1).tdiv x.lot * x.lot
def refillE (l : List Lv) : Int := if 256 < l.length then 5 else if l.any badLv = true then 2 else 0
def refillL (l : List Lv) : List Int := if refillE l = 0 then l.map fillS else []
theorem refill_many {l : List Lv} (h : 256 < l.length) : refillE l = 5 ∧ refillL l = [] := by
  have : refillE l = 5 := by unfold refillE; rw [if_pos h]
  exact ⟨this, by unfold refillL; rw [if_neg (by rw [this]; simp)]⟩
theorem refill_bad {l : List Lv} {k : Nat} (h : ¬ 256 < l.length) (hk : k < l.length) (hb : badLv (l.getD k lv0) = true) : refillE l = 2 ∧ refillL l = [] := by
  have : refillE l = 2 := by
    unfold refillE
    rw [if_neg h, if_pos (List.any_eq_true.2 ⟨_, getD_mem hk, hb⟩)]
  exact ⟨this, by unfold refillL; rw [if_neg (by rw [this]; simp)]⟩
theorem refill_ok {l : List Lv} (h : ¬ 256 < l.length) (hb : ∀ j, j < l.length → badLv (l.getD j lv0) = false) : refillE l = 0 ∧ refillL l = l.map fillS := by
  have : refillE l = 0 := by
    unfold refillE
    rw [if_neg h, if_neg]
    rw [Bool.not_eq_true, List.any_eq_false]
    intro x hx
    obtain ⟨i, hi, e⟩ := List.mem_iff_getElem.1 hx
    have := hb i hi
    rw [getD_of hi, e] at this
    rw [this]; simp
  exact ⟨this, by unfold refillL; rw [if_pos this]⟩
theorem take_map_succ {l : List Lv} {k : Nat} (h : k < l.length) : (l.map fillS).take (k + 1) = (l.map fillS).take k ++ [fillS (l.getD k lv0)] := by
  rw [List.take_succ_eq_append_getElem (by rw [List.length_map]; exact h), List.getElem_map, getD_of h]
theorem take_map_full {l : List Lv} {k : Nat} (h : k = l.length) : (l.map fillS).take k = l.map fillS := List.take_of_length_le (by rw [List.length_map]; omega)
theorem fill_bd {x : Lv} (h : badLv x = false) : (0 ≤ x.has ∧ x.has ≤ 1048576) ∧ (0 ≤ x.least ∧ x.least ≤ 1048576) ∧ (1 ≤ x.lot ∧ x.lot ≤ 1048576) ∧ 0 ≤ (max 0 (x.least - x.has) + x.lot - 1).tdiv x.lot ∧ (max 0 (x.least - x.has) + x.lot - 1).tdiv x.lot ≤ 2097152 ∧ 0 ≤ fillS x ∧ fillS x ≤ 2199023255552 := by
  unfold badLv at h
  rw [Bool.or_eq_false_iff] at h
  obtain ⟨h1, h2⟩ := h
  have h1 := any_neg.1 h1
  have a1 := h1 x.has (by simp)
  have a2 := h1 x.least (by simp)
  have a3 := h1 x.lot (by simp)
  have a4 : x.lot ≠ 0 := by simpa using h2
  unfold fillS
  generalize x.has = a at *
  generalize x.least = b at *
  generalize x.lot = c at *
  have a5 : 0 ≤ max 0 (b - a) + c - 1 := by omega
  have a6 : (max 0 (b - a) + c - 1).tdiv c = (max 0 (b - a) + c - 1) / c := Int.tdiv_eq_ediv_of_nonneg a5
  rw [a6]
  have a7 : 0 ≤ (max 0 (b - a) + c - 1) / c := Int.ediv_nonneg a5 (by omega)
  have a8 : (max 0 (b - a) + c - 1) / c ≤ max 0 (b - a) + c - 1 := Int.ediv_le_self _ a5
  have a9 : 0 ≤ (max 0 (b - a) + c - 1) / c * c := Int.mul_nonneg a7 (by omega)
  have aA : (max 0 (b - a) + c - 1) / c * c ≤ 2097152 * 1048576 := Int.mul_le_mul (by omega) (by omega) (by omega) (by omega)
  refine ⟨by omega, by omega, by omega, a7, by omega, a9, by omega⟩
end Go.Proofs.YtmndcdjcodfchaaGreatDoor
namespace Go.Proofs.YtmndcdjcodfchaaGreatDoor
open Go Go.RowKit
variable {P : Program} {md : Region.Mode} {ops : Array Oper} {Q : Exit → Act → World → Prop} {S : World → Prop} {f : Nat}
def wpAnyE (P : Program) (md : Region.Mode) (ops : Array Oper) (Q : Exit → Act → World → Prop) (S : World → Prop) (f : Nat) : Nat → Array Bool → Act → World → Prop
  | 0, listed, a, w => Region.ready md ops listed = [] ∧ Q .normal a w
  | fuel + 1, listed, a, w =>
    (Region.ready md ops listed = [] → Q .normal a w) ∧
    ∀ i ∈ Region.ready md ops listed, wpOp P ops Q i (fun a' w' => ((listed.setIfInBounds i true).getD f false = false → S w') ∧ wpAnyE P md ops Q S f fuel (listed.setIfInBounds i true) a' w') a w
theorem wpAny_of_heldE : ∀ (fuel : Nat) (listed : Array Bool) (a : Act) (w : World), wpAnyE P md ops Q S f fuel listed a w → wpAny P md ops Q fuel listed a w
  | 0, _, _, _, h => h
  | fuel + 1, _, _, _, h => ⟨h.1, fun i hi => wpOp_mono (fun a' w' h' => wpAny_of_heldE fuel _ a' w' h'.2) (h.2 i hi)⟩
def waitsFor (md : Region.Mode) (ops : Array Oper) (f i : Nat) : Bool := match ops[f]? with
  | some o => o.after.any fun e => Region.binds md e && e.on == i
  | none => true
theorem pend_set {listed : Array Bool} {f i : Nat} (h : f ≠ i) : (listed.setIfInBounds i true).getD f false = listed.getD f false := getD_set_ne false (Ne.symm h)
theorem wpAnyE_first (b : Bool) {i : Nat} {oi : Oper} {v : Value} (hi : ops[i]? = some oi) (hif : f ≠ i) (hsel : ∀ (j : Nat) (o : Oper) cs b, ops[j]? = some o → o.op ≠ .select cs b)
    (hQ : ∀ c a w, Q (.panic c) (a.put oi.dst v) w → Q (.panic c) a w) (hfi : b = true → waitsFor md ops f i = true) :
    ∀ (fuel : Nat) (listed : Array Bool) (a : Act) (w : World),
      (∀ j oj, ops[j]? = some oj → j ≠ i → listed.getD j true = false → (∀ e ∈ oj.after, Region.binds md e = true → e.on ≠ i) → oi.apart ops oj = true) →
      i ∈ Region.ready md ops listed → YieldsIf P ops (fun w => b = true → S w) oi v a → (b = true → listed.getD f false = false) → (listed.getD f false = false → S w) →
      wpAnyE P md ops Q S f fuel (listed.setIfInBounds i true) (a.put oi.dst v) w → wpAnyE P md ops Q S f (fuel + 1) listed a w := by
  intro fuel
  induction fuel with
  | zero =>
    intro listed a w _ hr hy hb hS H
    refine ⟨fun h => (by rw [h] at hr; cases hr), fun j hj => ?_⟩
    by_cases hji : j = i
    · subst hji; exact hy.wpOp hi (fun h => hS (hb h)) ⟨fun h => hS (by rw [pend_set hif] at h; exact h), H⟩
    · have := ready_mono hj hji
      rw [H.1] at this
      cases this
  | succ fuel ih =>
    intro listed a w hfree hr hy hb hS H
    refine ⟨fun h => (by rw [h] at hr; cases hr), fun j hj => ?_⟩
    by_cases hji : j = i
    · subst hji; exact hy.wpOp hi (fun h => hS (hb h)) ⟨fun h => hS (by rw [pend_set hif] at h; exact h), H⟩
    · have h1 := H.2 j (ready_mono hj hji)
      obtain ⟨hjun, oj, hoj, hall⟩ := mem_ready.1 hj
      have hnot : ∀ e ∈ oj.after, Region.binds md e = true → e.on ≠ i := fun e he hb heq => by
        have h1 := hall e he hb
        have h0 := (mem_ready.1 hr).1
        rw [heq] at h1
        rcases Nat.lt_or_ge i listed.size with h' | h'
        · simp [h'] at h0 h1; rw [h0] at h1; cases h1
        · simp [Array.getElem?_eq_none h'] at h1
      have hjf : b = true → f ≠ j := fun hbt hf => by
        subst hf
        have hfi := hfi hbt
        unfold waitsFor at hfi
        rw [hoj] at hfi
        obtain ⟨e, he, h2⟩ := Array.any_eq_true'.1 hfi
        simp only [Bool.and_eq_true, beq_iff_eq] at h2
        exact hnot e he h2.1 h2.2
      have h2 := wpOp_putIf hoj (hfree j oj hoj hji hjun hnot) (fun cs b => hsel i oi cs b hi) (fun cs b => hsel j oj cs b hoj) hQ hy h1
      have hfree' : ∀ k ok, ops[k]? = some ok → k ≠ i → (listed.setIfInBounds j true).getD k true = false →
          (∀ e ∈ ok.after, Region.binds md e = true → e.on ≠ i) → oi.apart ops ok = true := fun k ok hk hki hun hno => by
        refine hfree k ok hk hki ?_ hno
        by_cases hjk : j = k
        · subst hjk; exact hjun
        · rw [getD_set_ne true hjk] at hun; exact hun
      refine wpOp_mono (fun a' w' h3 => ?_) h2
      have hc : (listed.setIfInBounds j true).getD f false = false → S w' := fun h => h3.2.1 (by rw [Array.setIfInBounds_comm _ _ (Ne.symm hji), pend_set hif]; exact h)
      refine ⟨hc, ih (listed.setIfInBounds j true) a' w' hfree' (ready_mono hr (Ne.symm hji)) h3.1 (fun h => by rw [pend_set (hjf h)]; exact hb h) hc ?_⟩
      rw [Array.setIfInBounds_comm _ _ hji]
      exact h3.2.2
theorem wpAnyE_take {i : Nat} {oi : Oper} {v : Value} {fuel : Nat} {listed : Array Bool} {a : Act} {w : World} (hi : ops[i]? = some oi)
    (hs : (Region.noSelect ops && Region.free md ops listed i && (Region.ready md ops listed).contains i && waitsFor md ops f i && (f != i) && !listed.getD f false) = true)
    (hQ : ∀ c a w, Q (.panic c) (a.put oi.dst v) w → Q (.panic c) a w) (hy : YieldsIf P ops S oi v a) (hS : S w)
    (h : wpAnyE P md ops Q S f fuel (listed.setIfInBounds i true) (a.put oi.dst v) w) : wpAnyE P md ops Q S f (fuel + 1) listed a w := by
  simp only [Bool.and_eq_true, bne_iff_ne, Bool.not_eq_true'] at hs
  refine wpAnyE_first true hi hs.1.2 (Region.noSelect_spec hs.1.1.1.1.1) hQ (fun _ => hs.1.1.2) fuel listed a w (Region.free_spec hi hs.1.1.1.1.2) (by simpa using hs.1.1.1.2) ?_ (fun _ => hs.2) (fun _ => hS) h
  rcases hy with ⟨h1, h2⟩ | h1
  · exact .inl ⟨h1, fun w hw => h2 w (hw rfl)⟩
  · exact .inr h1
theorem wpAnyE_pure {i : Nat} {oi : Oper} {v : Value} {fuel : Nat} {listed : Array Bool} {a : Act} {w : World} (hi : ops[i]? = some oi)
    (hs : (Region.noSelect ops && Region.free md ops listed i && (Region.ready md ops listed).contains i && (f != i)) = true)
    (hQ : ∀ c a w, Q (.panic c) (a.put oi.dst v) w → Q (.panic c) a w) (hy : YieldsIf P ops (fun _ => True) oi v a) (hS : listed.getD f false = false → S w)
    (h : wpAnyE P md ops Q S f fuel (listed.setIfInBounds i true) (a.put oi.dst v) w) : wpAnyE P md ops Q S f (fuel + 1) listed a w := by
  simp only [Bool.and_eq_true, bne_iff_ne] at hs
  refine wpAnyE_first false hi hs.2 (Region.noSelect_spec hs.1.1.1) hQ (fun h => by cases h) fuel listed a w (Region.free_spec hi hs.1.1.2) (by simpa using hs.1.2) ?_ (fun h => by cases h) hS h
  rcases hy with ⟨h1, h2⟩ | h1
  · exact .inl ⟨h1, fun w _ => h2 w trivial⟩
  · exact .inr h1
theorem wpAnyE_one {i : Nat} {o : Oper} {fuel : Nat} {listed : Array Bool} {a : Act} {w : World} (ho : ops[i]? = some o) (hr : Region.ready md ops listed = [i])
    (h : ∀ K' : Act → World → Prop, Shut (∀ a w, S w → (S w → wpAnyE P md ops Q S f fuel (listed.setIfInBounds i true) a w) → K' a w) → if Region.wanted o (yielded ops a.tmps) = true then Oper.wp P o a w K' Q else K' (a.put o.dst undef) w) :
    wpAnyE P md ops Q S f (fuel + 1) listed a w := by
  refine ⟨fun h0 => (by rw [hr] at h0; cases h0), fun j hj => ?_⟩
  rw [hr] at hj
  rcases List.mem_singleton.1 hj with rfl
  exact wpOp_step ho (fun K' hK => h K' (fun a w hS hW => hK a w ⟨fun _ => hS, hW hS⟩))
theorem wpAnyE_two {i j : Nat} {o p : Oper} {fuel : Nat} {listed : Array Bool} {a : Act} {w : World} (ho : ops[i]? = some o) (hp : ops[j]? = some p) (hr : Region.ready md ops listed = [i, j])
    (h : ∀ K' : Act → World → Prop, Shut (∀ a w, S w → (S w → wpAnyE P md ops Q S f fuel (listed.setIfInBounds i true) a w) → K' a w) → if Region.wanted o (yielded ops a.tmps) = true then Oper.wp P o a w K' Q else K' (a.put o.dst undef) w)
    (h2 : ∀ K' : Act → World → Prop, Shut (∀ a w, S w → (S w → wpAnyE P md ops Q S f fuel (listed.setIfInBounds j true) a w) → K' a w) → if Region.wanted p (yielded ops a.tmps) = true then Oper.wp P p a w K' Q else K' (a.put p.dst undef) w) :
    wpAnyE P md ops Q S f (fuel + 1) listed a w := by
  refine ⟨fun h0 => (by rw [hr] at h0; cases h0), fun k hk => ?_⟩
  rw [hr] at hk
  rcases List.mem_cons.1 hk with rfl | hk
  · exact wpOp_step ho (fun K' hK => h K' (fun a w hS hW => hK a w ⟨fun _ => hS, hW hS⟩))
  · rcases List.mem_singleton.1 hk with rfl
    exact wpOp_step hp (fun K' hK => h2 K' (fun a w hS hW => hK a w ⟨fun _ => hS, hW hS⟩))
theorem wpAnyE_free {i : Nat} {o : Oper} {fuel : Nat} {listed : Array Bool} {a : Act} {w : World} (ho : ops[i]? = some o) (hr : Region.ready md ops listed = [i]) (hl : (listed.setIfInBounds i true).getD f false = true)
    (h : ∀ K' : Act → World → Prop, Shut (∀ a w, wpAnyE P md ops Q S f fuel (listed.setIfInBounds i true) a w → K' a w) → if Region.wanted o (yielded ops a.tmps) = true then Oper.wp P o a w K' Q else K' (a.put o.dst undef) w) :
    wpAnyE P md ops Q S f (fuel + 1) listed a w := by
  refine ⟨fun h0 => (by rw [hr] at h0; cases h0), fun j hj => ?_⟩
  rw [hr] at hj
  rcases List.mem_singleton.1 hj with rfl
  exact wpOp_step ho (fun K' hK => h K' (fun a w hW => hK a w ⟨fun h => (by rw [hl] at h; cases h), hW⟩))
theorem wpAnyE_done {listed : Array Bool} {a : Act} {w : World} (hr : Region.ready md ops listed = []) (h : Q .normal a w) :
    ∀ fuel, wpAnyE P md ops Q S f fuel listed a w
  | 0 => ⟨hr, h⟩
  | _ + 1 => ⟨fun _ => h, by rw [hr]; simp⟩
theorem wp_region_heldE (f : Nat) (S : World → Prop) {id : Nat} {a : Act} {w : World} (hm : P.follows .mixedOrders = true)
    (h : wpAnyE P .any ops Q S f ops.size (Array.replicate ops.size false) a w.drew) : (Code.region id ops true).wp P Q a w :=
  wp_region_any hm (wpAny_of_heldE _ _ _ _ h)
theorem eTk {P : Program} {md : Region.Mode} {ops : Array Oper} {Q : Exit → Act → World → Prop} {S : World → Prop} {f : Nat} (i : Nat) {oi : Oper} {v : Value} {fuel : Nat} {listed : Array Bool} {a b : Act} {w : World}
    (h : wpAnyE P md ops Q S f fuel (listed.setIfInBounds i true) b w)
    (hi : ops[i]? = some oi := by simp only [List.getElem?_toArray, List.getElem?_cons_succ, List.getElem?_cons_zero]; exact rfl)
    (hs : (Region.noSelect ops && Region.free md ops listed i && (Region.ready md ops listed).contains i && waitsFor md ops f i && (f != i) && !listed.getD f false) = true := by kernel_rfl)
    (hQ : ∀ c a w, Q (.panic c) (a.put oi.dst v) w → Q (.panic c) a w := by exact fun _ _ _ h => h)
    (hy : YieldsIf P ops S oi v a := by refine Or.inl ⟨by rfl, ?_⟩; intro w hSw; (try dsimp only at hSw); (first | (go_simp; done) | (go_simp; with_reducible rfl)))
    (hb : a.put oi.dst v = b := by (try simp only [Act.put, List.setIfInBounds_toArray, List.set_cons_zero, List.set_cons_succ]); exact rfl)
    (hS : S w := by assumption) : wpAnyE P md ops Q S f (fuel + 1) listed a w := by
  subst hb
  exact wpAnyE_take hi hs hQ hy hS h
theorem ePu {P : Program} {md : Region.Mode} {ops : Array Oper} {Q : Exit → Act → World → Prop} {S : World → Prop} {f : Nat} (i : Nat) {oi : Oper} {v : Value} {fuel : Nat} {listed : Array Bool} {a b : Act} {w : World}
    (h : wpAnyE P md ops Q S f fuel (listed.setIfInBounds i true) b w)
    (hi : ops[i]? = some oi := by simp only [List.getElem?_toArray, List.getElem?_cons_succ, List.getElem?_cons_zero]; exact rfl)
    (hs : (Region.noSelect ops && Region.free md ops listed i && (Region.ready md ops listed).contains i && (f != i)) = true := by kernel_rfl)
    (hQ : ∀ c a w, Q (.panic c) (a.put oi.dst v) w → Q (.panic c) a w := by exact fun _ _ _ h => h)
    (hy : YieldsIf P ops (fun _ => True) oi v a := by refine Or.inl ⟨by rfl, ?_⟩; intro w hSw; clear hSw; (first | (go_simp; done) | (go_simp; with_reducible rfl)))
    (hb : a.put oi.dst v = b := by (try simp only [Act.put, List.setIfInBounds_toArray, List.set_cons_zero, List.set_cons_succ]); exact rfl)
    (hS : listed.getD f false = false → S w := by first | exact (fun _ => by assumption) | (intro hlst; exact absurd hlst (by kernel_rfl)) | (intro hlst; cases hlst)) : wpAnyE P md ops Q S f (fuel + 1) listed a w := by
  subst hb
  exact wpAnyE_pure hi hs hQ hy hS h
end Go.Proofs.YtmndcdjcodfchaaGreatDoor
namespace Go.Proofs.YtmndcdjcodfchaaGreatDoor
open Go.RowKit
def LevAt (w : World) (la : Option Addr) (l : List Lv) : Prop :=
  ∀ i, i < l.length → ∃ b off, la = some ⟨b, off, none⟩ ∧ w.cell? ⟨b, off + i * 3, none⟩ = some (.int .i64 (l.getD i lv0).has) ∧ w.cell? ⟨b, off + i * 3 + 1, none⟩ = some (.int .i64 (l.getD i lv0).least) ∧ w.cell? ⟨b, off + i * 3 + 2, none⟩ = some (.int .i64 (l.getD i lv0).lot)
theorem LevAt.ext {w w' : World} {la : Option Addr} {l : List Lv} (h : LevAt w la l) (he : Ext w w') : LevAt w' la l := fun i hi => by
  obtain ⟨b, off, h1, h2, h3, h4⟩ := h i hi
  exact ⟨b, off, h1, he.cell h2, he.cell h3, he.cell h4⟩
theorem cells_three (w : World) (b : Nat) (x y z : Int) (h0 : w.cell? ⟨b, 0, none⟩ = some (.int .i64 x)) (h1 : w.cell? ⟨b, 1, none⟩ = some (.int .i64 y)) (h2 : w.cell? ⟨b, 2, none⟩ = some (.int .i64 z)) : CellsI w (some ⟨b, 0, none⟩) [x, y, z] := fun i hi => by
  rcases i with _ | _ | _ | i
  · exact ⟨b, 0, rfl, h0⟩
  · exact ⟨b, 0, rfl, h1⟩
  · exact ⟨b, 0, rfl, h2⟩
  · simp only [List.length_cons, List.length_nil] at hi
    omega
theorem bad_a {x : Lv} (h : [x.has, x.least, x.lot].any isNeg = true) : badLv x = true := by unfold badLv; rw [h]; rfl
theorem bad_b {x : Lv} (h : x.lot = 0) : badLv x = true := by unfold badLv; simp [h]
theorem bad_c {x : Lv} (h : [x.has, x.least, x.lot].any isNeg = false) (h0 : x.lot ≠ 0) : badLv x = false := by unfold badLv; rw [h]; simp [h0]
set_option maxHeartbeats 8000000 in
theorem Refill_any (l : List Lv) (la : Option Addr) (cap : Nat) (w : World) (hl : LevAt w la l) (hm : l.length ≤ maxLen) :
    Calls Tryz.prog 32 #[.slice la l.length cap] w fun e w' => SliceE (refillL l) (refillE l) w e w' := by
  unfold SliceE
  unfold maxLen at hm
  have HC := Lib.hid hl
  obtain ⟨n, hn⟩ : ∃ n, n = l.length := ⟨_, rfl⟩
  obtain ⟨r, hr⟩ : ∃ r, refillE l = r := ⟨_, rfl⟩
  obtain ⟨q, hq⟩ : ∃ q, refillL l = q := ⟨_, rfl⟩
  rw [← hn] at hm
  rw [hr, hq, ← hn]
  have HN := Lib.hid hn
  have HR := Lib.hid (show _ ∧ _ from ⟨hr, hq⟩)
  clear hl hn hr hq
  by_cases h0 : 256 < n
  · have h0' : (256 : Int) < (n : Int) := by omega
    obtain ⟨rfl, rfl⟩ : r = 5 ∧ q = [] := by
      have := refill_many (l := l) (by rw [← HN.out]; exact h0)
      rw [HR.out.1, HR.out.2] at this
      exact this
    go_enter Tryz.func32, Tryz.ntmps32
    go_wp2
    go_ret2
    exact ⟨none, 0, rfl, fun i hi => by simp at hi, Nat.le_refl _, Nat.zero_le _, Ext.refl _⟩
  have h0' : ¬ (256 : Int) < (n : Int) := by omega
  have HBAD : Hid (∀ k, k < n → badLv (l.getD k lv0) = true → r = 2 ∧ q = []) := fun k hk hb => by
    have := refill_bad (l := l) (by rw [← HN.out]; exact h0) (by rw [← HN.out]; exact hk) hb
    rw [HR.out.1, HR.out.2] at this
    exact this
  have HOK : Hid ((∀ j, j < n → badLv (l.getD j lv0) = false) → r = 0 ∧ q = l.map fillS) := fun hb => by
    have := refill_ok (l := l) (by rw [← HN.out]; exact h0) (by rw [← HN.out]; exact hb)
    rw [HR.out.1, HR.out.2] at this
    exact this
  clear HR
  go_enter Tryz.func32, Tryz.ntmps32
  go_wp2
  go_loopw [4, 13] (fun v i wr => ∃ k : Nat, k ≤ n ∧ i = .int .i64 k ∧ Hid (OwnsI wr v ((l.map fillS).take k)) ∧ Hid (∀ b, v.ownBlock = some b → w.heap.size ≤ b) ∧ Hid (∀ j, j < k → badLv (l.getD j lv0) = false) ∧ Ext w wr) (fun _ i _ => n - (intOf i).toNat)
  case atStart => exact ⟨0, Nat.zero_le _, rfl, OwnsI.nil _, fun b hb => (by cases hb), fun j hj => absurd hj (Nat.not_lt_zero j), Ext.refl _⟩
  case round =>
    obtain ⟨k, hk, rfl, HO, HV, HZ, he⟩ := hrel
    by_cases hlt : k < n
    · have hlt' : (k : Int) < (n : Int) := by omega
      obtain ⟨b, off, rfl, c1, c2, c3⟩ := HC.out.ext he k (by rw [← HN.out]; exact hlt)
      have hbad := HBAD.out k hlt
      have hnx := take_map_succ (l := l) (k := k) (by rw [← HN.out]; exact hlt)
      have hzz : badLv (l.getD k lv0) = false → ∀ j, j < k + 1 → badLv (l.getD j lv0) = false := fun h j hj => by
        rcases Nat.lt_or_eq_of_le (Nat.le_of_lt_succ hj) with h2 | rfl
        · exact HZ.out j h2
        · exact h
      generalize l.getD k lv0 = x at c1 c2 c3 hbad hnx hzz
      have HB := Lib.hid hbad
      have HX := Lib.hid hnx
      have HZZ := Lib.hid hzz
      have z1 := cell_lt c1
      dsimp only at z1
      clear hbad hnx hzz HZ
      go_wp2_with fail
      have E2 : Ext w ((wr.alloc (.cells #[.int .i64 x.has, .int .i64 x.least, .int .i64 x.lot] 69)).alloc (.cells #[.int .i64 x.has, .int .i64 x.least, .int .i64 x.lot] 3)) := (he.alloc _).alloc _
      have d0 : ((wr.alloc (.cells #[.int .i64 x.has, .int .i64 x.least, .int .i64 x.lot] 69)).alloc (.cells #[.int .i64 x.has, .int .i64 x.least, .int .i64 x.lot] 3)).cell? ⟨wr.heap.size, 0, none⟩ = some (.int .i64 x.has) := by go_simp
      have d1 : ((wr.alloc (.cells #[.int .i64 x.has, .int .i64 x.least, .int .i64 x.lot] 69)).alloc (.cells #[.int .i64 x.has, .int .i64 x.least, .int .i64 x.lot] 3)).cell? ⟨wr.heap.size, 1, none⟩ = some (.int .i64 x.least) := by go_simp
      have d2 : ((wr.alloc (.cells #[.int .i64 x.has, .int .i64 x.least, .int .i64 x.lot] 69)).alloc (.cells #[.int .i64 x.has, .int .i64 x.least, .int .i64 x.lot] 3)).cell? ⟨wr.heap.size, 2, none⟩ = some (.int .i64 x.lot) := by go_simp
      have EV : Ext wr ((wr.alloc (.cells #[.int .i64 x.has, .int .i64 x.least, .int .i64 x.lot] 69)).alloc (.cells #[.int .i64 x.has, .int .i64 x.least, .int .i64 x.lot] 3)) := extA
      refine (counts_any [x.has, x.least, x.lot] 3 _ 3 _ rfl (by unfold maxLen; omega) (cells_three _ _ _ _ _ (by go_simp) (by go_simp) (by go_simp))).mono ?_
      rintro e w1 ⟨rfl, hE⟩
      have E3 := E2.trans hE
      have EW := EV.trans hE
      have d0 := hE.cell d0
      have d1 := hE.cell d1
      have d2 := hE.cell d2
      obtain ⟨lb, hlb⟩ : ∃ lb, lb = wr.heap.size := ⟨_, rfl⟩
      rw [← hlb] at d0 d1 d2 ⊢
      have HLW : Hid (lb = wr.heap.size) := hlb
      clear hlb hE E2 EV c1 c2 c3 z1
      cases hpn : [x.has, x.least, x.lot].any isNeg
      case true =>
        obtain ⟨rfl, rfl⟩ := HB.out (bad_a hpn)
        clear hpn
        go_wp2
        go_ret2
        exact ⟨none, 0, rfl, fun i hi => by simp at hi, Nat.le_refl _, Nat.zero_le _, E3⟩
      have zd := cell_lt d2
      dsimp only at zd
      by_cases h9 : x.lot = 0
      · have k9 : (x.lot == 0) = true := by simp [h9]
        obtain ⟨rfl, rfl⟩ := HB.out (bad_b h9)
        clear hpn
        go_wp2
        go_ret2
        exact ⟨none, 0, rfl, fun i hi => by simp at hi, Nat.le_refl _, Nat.zero_le _, E3⟩
      have k9 : (x.lot == 0) = false := by simp [h9]
      have HG := Lib.hid (bad_c hpn h9)
      clear hpn
      obtain ⟨⟨b1, b2⟩, ⟨b3, b4⟩, ⟨b5, b6⟩, b7, b8, b9, bA⟩ := fill_bd HG.out
      have hfl : fillS x = (max 0 (x.least - x.has) + x.lot - 1).tdiv x.lot * x.lot := rfl
      rw [hfl] at b9 bA
      have HF := Lib.hid hfl
      generalize x.has = a at d0 b1 b2 b7 b8 b9 bA HF
      generalize x.least = c at d1 b3 b4 b7 b8 b9 bA HF
      generalize x.lot = d at d2 h9 k9 b5 b6 b7 b8 b9 bA HF
      obtain ⟨m, hm2⟩ : ∃ m, m = max 0 (c - a) := ⟨_, rfl⟩
      have hmb : 0 ≤ m ∧ m ≤ 1048576 := by omega
      rw [← hm2] at b7 b8 b9 bA HF
      have q0 : IntKind.i64.wrap (c - a) = c - a := IntWalk.i64_in _ (by omega)
      have q1 : IntKind.i64.wrap (m + d) = m + d := IntWalk.i64_in _ (by omega)
      have q2 : IntKind.i64.wrap (m + d - 1) = m + d - 1 := IntWalk.i64_in _ (by omega)
      obtain ⟨t, ht⟩ : ∃ t, t = (m + d - 1).tdiv d := ⟨_, rfl⟩
      rw [← ht] at b7 b8 b9 bA HF
      have q3 : IntKind.i64.wrap t = t := IntWalk.i64_in _ (by omega)
      have q4 : IntKind.i64.wrap (t * d) = t * d := IntWalk.i64_in _ (by omega)
      have q5 := ht.symm
      have HNN : Hid (n = l.length ∧ n ≤ 256) := ⟨HN.out, by omega⟩
      have HO2 := Lib.hid (HO.out.ext EW)
      have HLB : Hid (u4.ownBlock ≠ some lb) := fun h => by
        have := HO.out.lt h
        have := HLW.out
        omega
      clear b1 b2 b3 b4 HO
      have HM2 := Lib.hid hm2
      clear hm2 hmb ht
      go_wp2_with fail
      all_goals (first | (have h0m : m = 0 := (by have := HM2.out; omega); subst h0m; simp only [Int.zero_add] at q1 q2 q5) | (have hcm : m = c - a := (by have := HM2.out; omega); subst hcm))
      all_goals
        refine wp_region_heldE 99 (fun w' => w'.cell? ⟨lb, 2, none⟩ = some (.int .i64 d)) (by kernel_rfl) ?_
        have hS : w1.drew.cell? ⟨lb, 2, none⟩ = some (.int .i64 d) := by go_simp
        ((refine eTk 0 ?_); (refine eTk 1 ?_); (refine eTk 2 ?_); (refine eTk 3 ?_); (refine eTk 4 ?_); (refine eTk 5 ?_); (refine eTk 6 ?_); (refine eTk 7 ?_); (refine eTk 8 ?_); (refine eTk 9 ?_); (refine eTk 10 ?_); (refine eTk 11 ?_))
        (refine wpAnyE_one (i := 12) (o := ?_) ?_ (by kernel_rfl) (fun K hK => ?_); rotate_left; (focus ((simp only [List.getElem?_toArray, List.getElem?_cons_succ, List.getElem?_cons_zero]; exact rfl))); go_simp; refine hK.out _ _ ?_ (fun hHeld => ?_); rotate_left; clear hK K; (try simp only [Act.put, List.setIfInBounds_toArray, List.set_cons_zero, List.set_cons_succ]))
        rotate_left
        · go_simp
        have c9 : (w1.alloc (.cells #[.int .i64 (t * d)] 3)).drew.cell? ⟨w1.heap.size, 0, none⟩ = some (.int .i64 (t * d)) := by go_simp
        have EA : Ext w1 (w1.alloc (.cells #[.int .i64 (t * d)] 3)).drew := extA
        have E5 := E3.trans EA
        have HO3 := HO2.out.ext EA
        obtain ⟨nb, hnb⟩ : ∃ nb, nb = w1.heap.size := ⟨_, rfl⟩
        rw [← hnb] at c9 ⊢
        replace hS := hHeld
        generalize (w1.alloc (.cells #[.int .i64 (t * d)] 3)).drew = w5 at c9 hS E5 HO3 ⊢
        obtain ⟨v', w6, hr, g1, g2, g3, g4⟩ := HO3.app1 (x := t * d) 1 c9 (by rw [List.length_take, List.length_map]; have := HNN.out; omega) (n := w.heap.size) E5.size HV.out
        have HR := Lib.hid hr
        have hS6 : w6.cell? ⟨lb, 2, none⟩ = some (.int .i64 d) := (World.cell?_of_block (w := w5) (a := ⟨lb, 2, none⟩) (g4 lb (cell_lt hS) HLB.out)).trans hS
        clear hHeld hnb hr g4 HO3
        (refine wpAnyE_one (i := 13) (o := ?_) ?_ (by kernel_rfl) (fun K hK => ?_); rotate_left; (focus ((simp only [List.getElem?_toArray, List.getElem?_cons_succ, List.getElem?_cons_zero]; exact rfl))); refine step_app rfl _ _ 23 23 rfl u4 (.slice (some ⟨nb, 0, none⟩) 1 1) rfl rfl _ _ HR.out ?_; refine hK.out _ _ ?_ (fun hHeld => ?_); rotate_left; clear hK K; (try simp only [Act.put, List.setIfInBounds_toArray, List.set_cons_zero, List.set_cons_succ]))
        rotate_left
        · exact hS6
        ((refine ePu 14 ?_))
        refine wpAnyE_done (by kernel_rfl) ?_ _
        go_wp2
        refine ⟨⟨k + 1, by omega, by go_num, ?_, g2, HZZ.out HG.out, E5.trans' g3 (Nat.le_refl _)⟩, by simp [intOf]; omega⟩
        show OwnsI _ _ _
        rw [HX.out, HF.out]
        exact g1
    · have hke : k = n := by omega
      subst hke
      have hlt' : ¬ (k : Int) < (k : Int) := by omega
      obtain ⟨rfl, rfl⟩ := HOK.out HZ.out
      obtain ⟨a, cp, hv, g1, g2, g3⟩ := HO.out.full
      rw [take_map_full HN.out] at hv g1 g2
      subst hv
      have HG := Lib.hid (show _ ∧ _ ∧ _ from ⟨g1, g2, g3⟩)
      clear g1 g2 g3 HO HV
      go_wp2
      go_ret2
      exact ⟨a, cp, rfl, HG.out.1, by simpa using HG.out.2.1, HG.out.2.2, he⟩
end Go.Proofs.YtmndcdjcodfchaaGreatDoor
namespace Go.Proofs.YtmndcdjcodfchaaGreatDoor
end Go.Proofs.YtmndcdjcodfchaaGreatDoor
namespace Go.Proofs.YtmndcdjcodfchaaGreatDoor
open Go.RowKit
end Go.Proofs.YtmndcdjcodfchaaGreatDoor
namespace Go.Proofs.YtmndcdjcodfchaaGreatDoor
open Go.RowKit
theorem MaxK_any (l : List Int) (K : Nat) (a : Option Addr) (cap : Nat) (w : World) (hK : 0 < K) (hn : K = l.length) (hl : K ≤ maxLen) (hc : CellsI w a l) :
    Calls Tryz.prog 41 #[.slice a K cap] w fun e w' => e = .returned (.int .i64 (maxK l (K - 1))) ∧ Ext w w' := by
  cases K with
  | zero => omega
  | succ n => exact Max_any l n a cap w hn hl hc
theorem maxK_le {l : List Int} {c : Int} : ∀ k, (∀ i, i ≤ k → l.getD i 0 ≤ c) → maxK l k ≤ c := by
  intro k
  induction k with
  | zero => intro h; exact h 0 (Nat.le_refl _)
  | succ k ih =>
    intro h
    have h1 := ih (fun i hi => h i (by omega))
    have h2 := h (k + 1) (Nat.le_refl _)
    unfold maxK
    omega
theorem PksAt.wide {w : World} {X : Nat → Prop} {pa : Option Addr} {K : Nat} {pks : List Pk} (h : PksAt w (fun _ => False) pa K pks) (hK : 0 < K) (hp : ∀ p ∈ pks, p.parts.length = K) (hx : ∀ k, X k → w.heap.size ≤ k) : PksAt w X pa K pks := fun i hi => by
  obtain ⟨b, off, ai, ci, h1, h2, h3, h4, h5, _, _⟩ := h i hi
  have z := cell_lt h2
  dsimp only at z
  have hm : pks.getD i pk0 ∈ pks := by rw [List.getD_eq_getElem?_getD, List.getElem?_eq_getElem hi]; simp
  obtain ⟨b2, o2, e2, c2⟩ := h5 0 (by rw [hp _ hm]; exact hK)
  have z2 := cell_lt c2
  dsimp only at z2
  refine ⟨b, off, ai, ci, h1, h2, h3, h4, h5, fun e => by have := hx _ e; omega, fun b' o' e e3 => ?_⟩
  rw [e2] at e
  cases e
  have := hx _ e3
  omega
theorem PkG.at {w : World} {pa : Option Addr} {pks : List Pk} {K : Nat} (h : PkG w pa pks) (hp : ∀ p ∈ pks, p.parts.length = K) : PksAt w (fun _ => False) pa K pks := fun i hi => by
  obtain ⟨b, off, v, h1, h2, ⟨ai, ci, rfl, h3, _, _⟩, h4, h5⟩ := h i hi
  rw [hp _ (getD_mem (d := pk0) hi)] at h2
  exact ⟨b, off, ai, ci, h1, h2, h4, h5, h3, fun h => h, fun _ _ _ h => h⟩
def bestS (pks : List Pk) (need : List Int) : Bst := (buyS pks pks.length need 0 0 (List.replicate pks.length 0, bst0)).2
def orderE (pks : List Pk) (need : List Int) : Int := if checkS pks need ≠ 0 then checkS pks need else if 5 < pks.length ∨ 20 < maxK need (need.length - 1) then 12 else if (bestS pks need).found = true then 0 else 6
def orderL (pks : List Pk) (need : List Int) : List Int := if orderE pks need = 0 then (bestS pks need).order else []
def orderP (pks : List Pk) (need : List Int) : Int := if orderE pks need = 0 then (bestS pks need).price else 0
def OrdP (l : List Int) (p er : Int) (w : World) (e : Ending) (w' : World) : Prop := ∃ a cap, e = .returned (.tuple #[.slice a l.length cap, .int .i64 p, .int .i64 er]) ∧ CellsI w' a l ∧ Ext w w'
set_option maxHeartbeats 4000000 in
set_option maxRecDepth 100000 in
theorem OrderGood_any {pks : List Pk} {K : Nat} {pa : Option Addr} {pc : Nat} (ht : TaskOk pks K) (hK : 0 < K) (need : List Int) (na : Option Addr) (nc : Nat) (w : World) (hnl : need.length = K) (hnn : ∀ x ∈ need, 0 ≤ x ∧ x ≤ 20) (hg : TaskG w pks need pa pc na nc) (hck : checkS pks need = 0) (r : Bst) (hr : (buyS pks pks.length need 0 0 (List.replicate pks.length 0, ⟨[], 0, 0, false⟩)).2 = r) :
    Calls Tryz.prog 13 #[.agg #[.slice pa pks.length pc, .slice na K nc]] w fun e w' => OrdP (if r.found = true then r.order else []) (if r.found = true then r.price else 0) (if r.found = true then 0 else 6) w e w' := by
  obtain ⟨lo, hlo⟩ : ∃ l, (if r.found = true then r.order else []) = l := ⟨_, rfl⟩
  obtain ⟨po, hpo⟩ : ∃ l, (if r.found = true then r.price else 0) = l := ⟨_, rfl⟩
  obtain ⟨eo, heo⟩ : ∃ l : Int, (if r.found = true then 0 else 6) = l := ⟨_, rfl⟩
  rw [hlo, hpo, heo]
  have HLO := Lib.hid (show _ ∧ _ ∧ _ from ⟨hlo, hpo, heo⟩)
  clear hlo hpo heo
  unfold OrdP
  have hp := hg.pk.at ht.parts
  have hc := hg.nd
  have hneed : ∀ k, k < K → 0 ≤ need.getD k 0 ∧ need.getD k 0 ≤ 20 := fun k hk => hnn _ (by rw [List.getD_eq_getElem?_getD, List.getElem?_eq_getElem (by omega)]; simp)
  have HCK : Hid (∀ w', Ext w w' → Calls Tryz.prog 23 #[.agg #[.slice pa pks.length pc, .slice na K nc]] w' fun e w2 => e = .returned (.int .i64 0) ∧ Ext w' w2) := fun w' he => by
    have h := Check_any (hg.ext he)
    rw [hck] at h
    unfold taskV at h
    rw [hnl] at h
    exact h
  have HMX : Hid (∀ w', Ext w w' → Calls Tryz.prog 41 #[.slice na K nc] w' fun e w2 => ∃ m : Int, m ≤ 20 ∧ e = .returned (.int .i64 m) ∧ Ext w' w2) := fun w' he => (MaxK_any need K na nc w' hK hnl.symm (by have := ht.kinds; unfold maxLen; omega) (hc.ext he)).mono (fun e w2 h => ⟨_, maxK_le _ (fun i hi => (hneed i (by omega)).2), h⟩)
  have HBUY : Hid (∀ xb nb fb bb nwb w', Ext w w' → w.heap.size ≤ bb → w.heap.size ≤ nwb → w'.cell? ⟨xb, 0, none⟩ = some (.slice pa pks.length pc) → w'.cell? ⟨nb, 0, none⟩ = some (.slice (some ⟨nwb, 0, none⟩) pks.length pks.length) → w'.cell? ⟨fb, 0, none⟩ = some (buyV bb nb xb fb) → xb ≠ bb → xb ≠ nwb → nb ≠ bb → nb ≠ nwb → fb ≠ bb → fb ≠ nwb → bb ≠ nwb → nwb < w'.heap.size →
      ArrI w' nwb (List.replicate pks.length 0) → w'.cell? ⟨bb, 0, none⟩ = some (.slice none 0 0) → w'.cell? ⟨bb, 1, none⟩ = some (.int .i64 0) → w'.cell? ⟨bb, 2, none⟩ = some (.int .i64 0) → w'.cell? ⟨bb, 3, none⟩ = some (.bool false) → (w'.frozen? ⟨bb, 0, none⟩ = false ∧ w'.frozen? ⟨bb, 1, none⟩ = false ∧ w'.frozen? ⟨bb, 2, none⟩ = false ∧ w'.frozen? ⟨bb, 3, none⟩ = false) →
      Calls Tryz.prog 42 #[.int .i64 0, .slice na K nc, .int .i64 0, .int .i64 0, .pointer (some ⟨bb, 0, none⟩), .pointer (some ⟨nb, 0, none⟩), .pointer (some ⟨xb, 0, none⟩), .pointer (some ⟨fb, 0, none⟩)] w' fun e w2 =>
        e = .returned (.tuple #[]) ∧ (∃ oa oc, w2.cell? ⟨bb, 0, none⟩ = some (.slice oa r.order.length oc) ∧ CellsI w2 oa r.order) ∧ w2.cell? ⟨bb, 1, none⟩ = some (.int .i64 r.price) ∧ w2.cell? ⟨bb, 3, none⟩ = some (.bool r.found) ∧ Below w.heap.size w' w2) := by
    intro xb nb fb bb nwb w' he b1 b2 cx cn cf n1 n2 n3 n4 n5 n6 n7 hnl2 ha c0 c1 c2 c3 hz
    have hno : NeedOk need 0 0 K 0 := ⟨hnl, fun k hk => by have := hneed k hk; omega, by omega, by omega⟩
    have hX : ∀ k, BX bb nwb k → w.heap.size ≤ k := fun k hk => by rcases hk with rfl | rfl <;> assumption
    have hpk : PksAt w' (BX bb nwb) pa K pks := fun i hi => by
      obtain ⟨b, off, ai, ci, h1, h2, h3, h4, h5, h6, h7⟩ := (hp.wide hK ht.parts hX) i hi
      exact ⟨b, off, ai, ci, h1, he.cell h2, he.cell h3, he.cell h4, h5.ext he, h6, h7⟩
    have henv : EnvB w' pks K xb nb fb bb nwb pa pc := ⟨cx, cn, cf, hpk, fun h => by rcases h with h | h <;> contradiction, fun h => by rcases h with h | h <;> contradiction, fun h => by rcases h with h | h <;> contradiction⟩
    have hst : StB w' bb nwb (List.replicate pks.length 0) ⟨[], 0, 0, false⟩ := ⟨ha, ⟨none, 0, c0, fun i hi => by simp at hi, fun _ _ e => by cases e⟩, c1, c2, c3, hz.1, hz.2.1, hz.2.2.1, hz.2.2.2, n7, hnl2⟩
    refine (buy_any ht w.heap.size b1 b2 pks.length 0 (by omega) need 0 0 na nc _ _ w' hno (by simp) henv hst (hc.ext he) (fun b' o' e e2 => ?_)).mono ?_
    · obtain ⟨b3, o3, e3, c3⟩ := hc 0 (by omega)
      rw [e] at e3
      cases e3
      have := cell_lt c3
      have := hX _ e2
      dsimp only at *
      omega
    · rintro e w2 ⟨h1, h2, _, h4⟩
      rw [hr] at h2
      obtain ⟨oa, oc, o1, o2, _⟩ := h2.o
      exact ⟨h1, ⟨oa, oc, o1, o2⟩, h2.p, h2.f, h4⟩
  obtain ⟨N, hN⟩ : ∃ N, N = pks.length := ⟨_, rfl⟩
  have hN5 := ht.len
  rw [← hN] at HCK HBUY hN5 ⊢
  clear ht hnl hnn hp hc hN hr hneed hg hck
  have E0 : Ext w (w.alloc (.cells #[.slice pa N pc, .slice na K nc] 25)) := (Ext.refl _).alloc _
  have y1 : (w.alloc (.cells #[.slice pa N pc, .slice na K nc] 25)).cell? ⟨w.heap.size, 0, none⟩ = some (.slice pa N pc) := by go_simp
  have y2 : (w.alloc (.cells #[.slice pa N pc, .slice na K nc] 25)).cell? ⟨w.heap.size, 1, none⟩ = some (.slice na K nc) := by go_simp
  have k3 : ¬ (5 : Int) < (N : Int) := by omega
  go_enter Tryz.func13, Tryz.ntmps13
  go_wp2_with fail
  refine (HCK.out _ E0).mono ?_
  rintro e w1 ⟨rfl, hE⟩
  have E1 := E0.trans hE
  have a1 := hE.cell y1
  have a2 := hE.cell y2
  clear hE E0 y1 y2
  go_wp2_with fail
  refine (HMX.out _ E1).mono ?_
  rintro e w2 ⟨m, hm, rfl, hE⟩
  have hm' : ¬ (20 : Int) < m := by omega
  have E2 := E1.trans hE
  have a1 := hE.cell a1
  have a2 := hE.cell a2
  clear hE E1
  have hx2 : w.heap.size < w2.heap.size := cell_lt a1
  obtain ⟨i0, hi, hi0, hi1, hi2⟩ := info_parts infoIn
  go_wp2_with (at_make; refine wpList_make_full _ rfl _ _ 23 rfl 0 3 i0 (.int .i64 0) 1 Tryz.underlying23 hi hi0 hi1 _ _ _ _ N rfl rfl rfl rfl ?b2 ?b3 ?b4 ?hK)
  case b2 => rw [hi2]; omega
  case b3 => unfold maxLen; omega
  case b4 => exact Nat.zero_le _
  case hK =>
    intro w3 hown hgr
    have E3 : Ext (w2.alloc (.cells #[.slice none 0 0, .int .i64 0, .int .i64 0, .bool false] 82)) w3 := ⟨hgr.os, hgr.tape, hgr.output, hgr.size, fun k hk => hgr.block k hk (by simp)⟩
    have HA3 : Hid (ArrI w3 (w2.heap.size + 1) (List.replicate N 0)) := fun j hj => by
      rw [List.length_replicate] at hj
      have h1 := hown.cellAt j (by omega)
      have h2 := hown.frozenAt j
      refine ⟨?_, h2⟩
      rw [h1]
      simp [madeCells, hj, Nat.mod_one, List.getD]
    have b0 : (w2.alloc (.cells #[.slice none 0 0, .int .i64 0, .int .i64 0, .bool false] 82)).cell? ⟨w2.heap.size, 0, none⟩ = some (.slice none 0 0) := by go_simp
    have b1 : (w2.alloc (.cells #[.slice none 0 0, .int .i64 0, .int .i64 0, .bool false] 82)).cell? ⟨w2.heap.size, 1, none⟩ = some (.int .i64 0) := by go_simp
    have b2 : (w2.alloc (.cells #[.slice none 0 0, .int .i64 0, .int .i64 0, .bool false] 82)).cell? ⟨w2.heap.size, 2, none⟩ = some (.int .i64 0) := by go_simp
    have b3 : (w2.alloc (.cells #[.slice none 0 0, .int .i64 0, .int .i64 0, .bool false] 82)).cell? ⟨w2.heap.size, 3, none⟩ = some (.bool false) := by go_simp
    have hz : (w2.alloc (.cells #[.slice none 0 0, .int .i64 0, .int .i64 0, .bool false] 82)).frozen? ⟨w2.heap.size, 0, none⟩ = false ∧ (w2.alloc (.cells #[.slice none 0 0, .int .i64 0, .int .i64 0, .bool false] 82)).frozen? ⟨w2.heap.size, 1, none⟩ = false ∧ (w2.alloc (.cells #[.slice none 0 0, .int .i64 0, .int .i64 0, .bool false] 82)).frozen? ⟨w2.heap.size, 2, none⟩ = false ∧ (w2.alloc (.cells #[.slice none 0 0, .int .i64 0, .int .i64 0, .bool false] 82)).frozen? ⟨w2.heap.size, 3, none⟩ = false := ⟨by go_simp, by go_simp, by go_simp, by go_simp⟩
    have E23 := (Ext.alloc (Ext.refl w2) (.cells #[.slice none 0 0, .int .i64 0, .int .i64 0, .bool false] 82)).trans E3
    have a1 := E23.cell a1
    have a2 := E23.cell a2
    have b0 := E3.cell b0
    have b1 := E3.cell b1
    have b2 := E3.cell b2
    have b3 := E3.cell b3
    have hx3 : w.heap.size < w3.heap.size := cell_lt a1
    have hy3 : w2.heap.size < w3.heap.size := cell_lt b0
    have hz3 : w2.heap.size + 1 < w3.heap.size := by
      have := rowLt hown (b := _) rfl
      simpa using this
    have hfz : ∀ o, (w2.alloc (.cells #[.slice none 0 0, .int .i64 0, .int .i64 0, .bool false] 82)).frozen? ⟨w2.heap.size, o, none⟩ = false → w3.frozen? ⟨w2.heap.size, o, none⟩ = false := fun o h => (Below.frozen (p := ⟨w2.heap.size, o, none⟩) E3 (by simp)).trans h
    have hz := And.intro (hfz 0 hz.1) (And.intro (hfz 1 hz.2.1) (And.intro (hfz 2 hz.2.2.1) (hfz 3 hz.2.2.2)))
    have E4 : ∀ t, Ext w3 ((w3.alloc (.cells #[.slice (some ⟨w2.heap.size + 1, 0, none⟩) N N] 23)).alloc (.cells #[buyV w2.heap.size w3.heap.size w.heap.size (w3.heap.size + 1)] t)) := fun t => ((Ext.refl _).alloc _).alloc _
    have cn : ∀ t, ((w3.alloc (.cells #[.slice (some ⟨w2.heap.size + 1, 0, none⟩) N N] 23)).alloc (.cells #[buyV w2.heap.size w3.heap.size w.heap.size (w3.heap.size + 1)] t)).cell? ⟨w3.heap.size, 0, none⟩ = some (.slice (some ⟨w2.heap.size + 1, 0, none⟩) N N) := fun t => by go_simp
    have cf : ∀ t, ((w3.alloc (.cells #[.slice (some ⟨w2.heap.size + 1, 0, none⟩) N N] 23)).alloc (.cells #[buyV w2.heap.size w3.heap.size w.heap.size (w3.heap.size + 1)] t)).cell? ⟨w3.heap.size + 1, 0, none⟩ = some (buyV w2.heap.size w3.heap.size w.heap.size (w3.heap.size + 1)) := fun t => by go_simp
    have EE := E2.trans E23
    have hle : w.heap.size ≤ w2.heap.size := E2.size
    have HAL : Hid (∀ t, ArrI ((w3.alloc (.cells #[.slice (some ⟨w2.heap.size + 1, 0, none⟩) N N] 23)).alloc (.cells #[buyV w2.heap.size w3.heap.size w.heap.size (w3.heap.size + 1)] t)) (w2.heap.size + 1) (List.replicate N 0)) := fun t => HA3.out.ext (E4 t)
    have HZA : Hid (∀ t, ((w3.alloc (.cells #[.slice (some ⟨w2.heap.size + 1, 0, none⟩) N N] 23)).alloc (.cells #[buyV w2.heap.size w3.heap.size w.heap.size (w3.heap.size + 1)] t)).frozen? ⟨w2.heap.size, 0, none⟩ = false ∧ ((w3.alloc (.cells #[.slice (some ⟨w2.heap.size + 1, 0, none⟩) N N] 23)).alloc (.cells #[buyV w2.heap.size w3.heap.size w.heap.size (w3.heap.size + 1)] t)).frozen? ⟨w2.heap.size, 1, none⟩ = false ∧ ((w3.alloc (.cells #[.slice (some ⟨w2.heap.size + 1, 0, none⟩) N N] 23)).alloc (.cells #[buyV w2.heap.size w3.heap.size w.heap.size (w3.heap.size + 1)] t)).frozen? ⟨w2.heap.size, 2, none⟩ = false ∧ ((w3.alloc (.cells #[.slice (some ⟨w2.heap.size + 1, 0, none⟩) N N] 23)).alloc (.cells #[buyV w2.heap.size w3.heap.size w.heap.size (w3.heap.size + 1)] t)).frozen? ⟨w2.heap.size, 3, none⟩ = false) := fun t => ⟨((E4 t).frozen (p := ⟨_, 0, none⟩) hy3).trans hz.1, ((E4 t).frozen (p := ⟨_, 1, none⟩) hy3).trans hz.2.1, ((E4 t).frozen (p := ⟨_, 2, none⟩) hy3).trans hz.2.2.1, ((E4 t).frozen (p := ⟨_, 3, none⟩) hy3).trans hz.2.2.2⟩
    clear hz hfz
    go_wp2_with fail
    refine (HBUY.out w.heap.size w3.heap.size (w3.heap.size + 1) w2.heap.size (w2.heap.size + 1) _ (EE.trans (E4 _)) (by omega) (by omega) ((E4 _).cell a1) (cn _) (cf _) (by omega) (by omega) (by omega) (by omega) (by omega) (by omega) (by omega) (by exact Nat.lt_of_lt_of_le hz3 (E4 _).size) (HAL.out _) ((E4 _).cell b0) ((E4 _).cell b1) ((E4 _).cell b2) ((E4 _).cell b3) (HZA.out _)).mono ?_
    rintro e w5 ⟨rfl, ⟨oa, oc, c0, cl⟩, c1, c3, hB⟩
    have HCL := Lib.hid cl
    clear cl
    have HB := Lib.hid (Below.trans (EE.trans (E4 _)) hB)
    have HCK2 := HCK
    clear hB HAL HZA HA3 E3 E4 E23 EE b0 b1 b2 b3 cn cf a1 a2 hown hgr HBUY HMX HCK HCK2
    have z5 := cell_lt c1
    dsimp only at z5
    cases hf : r.found
    · rw [hf] at c3
      obtain ⟨rfl, rfl, rfl⟩ : lo = [] ∧ po = 0 ∧ eo = 6 := by
        have h := HLO.out
        rw [hf, if_neg (by simp), if_neg (by simp), if_neg (by simp)] at h
        exact ⟨h.1.symm, h.2.1.symm, h.2.2.symm⟩
      clear hf
      go_wp2
      go_ret3
      exact ⟨none, 0, rfl, fun i hi => by simp at hi, HB.out⟩
    · rw [hf] at c3
      obtain ⟨rfl, rfl, rfl⟩ : lo = r.order ∧ po = r.price ∧ eo = 0 := by
        have h := HLO.out
        rw [hf, if_pos rfl, if_pos rfl, if_pos rfl] at h
        exact ⟨h.1.symm, h.2.1.symm, h.2.2.symm⟩
      clear hf
      go_wp2_with fail
      go_quiet (fail)
      go_wp2
      go_ret3
      exact ⟨oa, oc, rfl, HCL.out.ext ((Ext.refl _).drewN _), (show Ext w w5 from HB.out).drewN _⟩
theorem maxK_ge {l : List Int} : ∀ k i, i ≤ k → l.getD i 0 ≤ maxK l k := by
  intro k
  induction k with
  | zero =>
    intro i hi
    have : i = 0 := by omega
    subst this
    exact Int.le_refl _
  | succ k ih =>
    intro i hi
    unfold maxK
    by_cases h : i ≤ k
    · have := ih i h; omega
    · have : i = k + 1 := by omega
      subst this
      omega
theorem order_bad {pks : List Pk} {need : List Int} (h : orderE pks need ≠ 0) : orderL pks need = [] ∧ orderP pks need = 0 := by
  unfold orderL orderP
  rw [if_neg h, if_neg h]
  exact ⟨rfl, rfl⟩
theorem order_check {pks : List Pk} {need : List Int} (h : checkS pks need ≠ 0) : orderE pks need = checkS pks need := by unfold orderE; rw [if_pos h]
theorem order_limit {pks : List Pk} {need : List Int} (h : checkS pks need = 0) (h2 : 5 < pks.length ∨ 20 < maxK need (need.length - 1)) : orderE pks need = 12 := by unfold orderE; rw [if_neg (by rw [h]; simp), if_pos h2]
theorem order_good {pks : List Pk} {need : List Int} (h : checkS pks need = 0) (h2 : ¬ (5 < pks.length ∨ 20 < maxK need (need.length - 1))) :
    orderE pks need = (if (bestS pks need).found = true then 0 else 6) ∧ orderL pks need = (if (bestS pks need).found = true then (bestS pks need).order else []) ∧ orderP pks need = (if (bestS pks need).found = true then (bestS pks need).price else 0) := by
  have he : orderE pks need = (if (bestS pks need).found = true then 0 else 6) := by unfold orderE; rw [if_neg (by rw [h]; simp), if_neg h2]
  refine ⟨he, ?_⟩
  unfold orderL orderP
  rw [he]
  cases (bestS pks need).found
  · exact ⟨rfl, rfl⟩
  · exact ⟨rfl, rfl⟩
structure Searched (pks : List Pk) (need : List Int) : Prop where
  r : Right pks need
  len : pks.length ≤ 5
  nd : ∀ x ∈ need, 0 ≤ x ∧ x ≤ 20
theorem searched_of {pks : List Pk} {need : List Int} (h : checkS pks need = 0) (h2 : ¬ (5 < pks.length ∨ 20 < maxK need (need.length - 1))) : Searched pks need := by
  have hr := right_of h
  refine ⟨hr, by omega, fun x hx => ⟨(hr.nd x hx).1, ?_⟩⟩
  obtain ⟨i, hi, e⟩ := List.mem_iff_getElem.1 hx
  have := maxK_ge (l := need) (need.length - 1) i (by omega)
  rw [getD_of hi, e] at this
  omega
theorem Searched.task {pks : List Pk} {need : List Int} (h : Searched pks need) : TaskOk pks need.length := ⟨h.len, h.r.k1, h.r.parts, h.r.num, h.r.price, h.r.most⟩
set_option maxHeartbeats 4000000 in
theorem Order_any {pks : List Pk} {need : List Int} {pa : Option Addr} {pc : Nat} {na : Option Addr} {nc : Nat} {w : World} (ht : TaskG w pks need pa pc na nc) :
    Calls Tryz.prog 13 #[taskV pks need pa pc na nc] w fun e w' => OrdP (orderL pks need) (orderP pks need) (orderE pks need) w e w' := by
  by_cases hok : checkS pks need = 0 ∧ ¬ (5 < pks.length ∨ 20 < maxK need (need.length - 1))
  · obtain ⟨h1, h2⟩ := hok
    have hs := searched_of h1 h2
    obtain ⟨e1, e2, e3⟩ := order_good h1 h2
    rw [e1, e2, e3]
    exact OrderGood_any hs.task hs.r.k0 need na nc w rfl hs.nd ht h1 (bestS pks need) rfl
  have HCK := Lib.hid (fun w' (he : Ext w w') => Check_any (ht.ext he))
  unfold taskV at HCK ⊢
  unfold OrdP
  have HD := Lib.hid ht.nd
  obtain ⟨N, hN⟩ : ∃ N, N = pks.length := ⟨_, rfl⟩
  obtain ⟨K, hK⟩ : ∃ K, K = need.length := ⟨_, rfl⟩
  obtain ⟨c, hc⟩ : ∃ c, checkS pks need = c := ⟨_, rfl⟩
  obtain ⟨eo, heo⟩ : ∃ e, orderE pks need = e := ⟨_, rfl⟩
  have he0 : orderE pks need ≠ 0 ∧ (c ≠ 0 → eo = c) ∧ (c = 0 → eo = 12) := by
    by_cases h1 : checkS pks need = 0
    · have h2 : 5 < pks.length ∨ 20 < maxK need (need.length - 1) := by
        by_cases h2 : 5 < pks.length ∨ 20 < maxK need (need.length - 1)
        · exact h2
        · exact absurd ⟨h1, h2⟩ hok
      have h3 := order_limit h1 h2
      exact ⟨by rw [h3]; simp, fun h => absurd (hc.symm.trans h1) h, fun _ => by rw [← heo]; exact h3⟩
    · have h3 := order_check h1
      exact ⟨by rw [h3]; exact h1, fun _ => by rw [← heo, h3]; exact hc, fun h => absurd (hc.trans h) h1⟩
  obtain ⟨h1, h2⟩ := order_bad he0.1
  rw [h1, h2, heo, ← hN, ← hK]
  rw [hc, ← hN, ← hK] at HCK
  have HH : Hid (c = 0 → 5 < N ∨ 20 < maxK need (K - 1)) := fun h => by
    by_cases h2 : 5 < pks.length ∨ 20 < maxK need (need.length - 1)
    · rw [hN, hK]; exact h2
    · exact absurd ⟨hc.trans h, h2⟩ hok
  have HE := Lib.hid he0.2
  have HR : Hid (c = 0 → 0 < K ∧ K ≤ 16) := fun h => by
    have hr := right_of (hc.trans h)
    have := hr.k0
    have := hr.k1
    omega
  have HK := Lib.hid hK
  clear hok ht hN hK hc heo he0 h1 h2
  have E0 : Ext w (w.alloc (.cells #[.slice pa N pc, .slice na K nc] 25)) := (Ext.refl _).alloc _
  have y1 : (w.alloc (.cells #[.slice pa N pc, .slice na K nc] 25)).cell? ⟨w.heap.size, 0, none⟩ = some (.slice pa N pc) := by go_simp
  have y2 : (w.alloc (.cells #[.slice pa N pc, .slice na K nc] 25)).cell? ⟨w.heap.size, 1, none⟩ = some (.slice na K nc) := by go_simp
  go_enter Tryz.func13, Tryz.ntmps13
  go_wp2_with fail
  refine (HCK.out _ E0).mono ?_
  rintro e w1 ⟨rfl, hE⟩
  have E1 := E0.trans hE
  have a1 := hE.cell y1
  have a2 := hE.cell y2
  have z1 := cell_lt a1
  dsimp only at z1
  clear hE E0 y1 y2 HCK
  by_cases h0 : c = 0
  · subst h0
    obtain rfl := HE.out.2 rfl
    obtain ⟨hk0, hk1⟩ := HR.out rfl
    by_cases h5 : 5 < N
    · have k3 : (5 : Int) < (N : Int) := by omega
      go_wp2
      go_ret3
      exact ⟨none, 0, rfl, fun i hi => by simp at hi, E1⟩
    · have k3 : ¬ (5 : Int) < (N : Int) := by omega
      have HM : Hid (20 < maxK need (K - 1)) := by
        show _ < _
        have := HH.out rfl
        omega
      go_wp2_with fail
      refine (MaxK_any need K na nc _ hk0 HK.out (by unfold maxLen; omega) (HD.out.ext E1)).mono ?_
      rintro e w2 ⟨rfl, hE⟩
      have hm := HM.out
      generalize maxK need (K - 1) = m at hm ⊢
      have E2 := E1.trans hE
      go_wp2
      go_ret3
      exact ⟨none, 0, rfl, fun i hi => by simp at hi, E2⟩
  · have k1 : (c == 0) = false := by simp [h0]
    obtain rfl := HE.out.1 h0
    go_wp2
    go_ret3
    exact ⟨none, 0, rfl, fun i hi => by simp at hi, E1⟩
end Go.Proofs.YtmndcdjcodfchaaGreatDoor
namespace Go.Proofs.YtmndcdjcodfchaaGreatDoor
open Go.Lib (decDigits itoa)
def negS (s : List UInt8) : Bool := s.head? == some 45
def bareS (s : List UInt8) : List UInt8 := if negS s then s.tail else s
def IntS (s : List UInt8) : Prop := CanonL (bareS s) ∧ s ≠ [45, 48]
instance (s : List UInt8) : Decidable (IntS s) := by unfold IntS; infer_instance
def intV (s : List UInt8) : Int := if negS s then -(decV (bareS s) : Int) else decV (bareS s)
def intE (s : List UInt8) : Nat := if ¬ IntS s then 3 else if 60 < (bareS s).length then 11 else 0
theorem intV_abs (s : List UInt8) : (intV s).natAbs = decV (bareS s) := by unfold intV; split <;> omega
theorem canon_pos {s : List UInt8} (h : CanonL s) : negS s = false := by
  unfold negS
  cases s with
  | nil => rfl
  | cons c s =>
    have h1 := h.1 c (List.mem_cons_self ..)
    have h2 : c ≠ 45 := fun e => by rw [e] at h1; simp at h1
    simpa using h2
theorem canon_zero {s : List UInt8} (h : CanonL s) (h0 : decV s = 0) : s = [48] := by
  rw [← canon_back h, h0, digits_small (by omega)]; rfl
theorem bare_pos {s : List UInt8} (h : negS s = false) : bareS s = s := by unfold bareS; rw [h]; rfl
theorem neg_cons {s : List UInt8} (h : negS s = true) : s = 45 :: bareS s := by
  unfold bareS
  rw [if_pos h]
  unfold negS at h
  cases s with
  | nil => cases h
  | cons c s => simp at h; subst h; rfl
theorem int_back {s : List UInt8} (h : IntS s) : itoa (intV s) = s := by
  obtain ⟨h1, h2⟩ := h
  unfold intV
  cases hn : negS s
  · rw [if_neg (by simp), Go.Lib.itoa_nonneg, canon_back h1, bare_pos hn]
  · have h3 := neg_cons hn
    have h4 : decV (bareS s) ≠ 0 := fun e => h2 (by rw [h3, canon_zero h1 e])
    rw [if_pos rfl, Go.Lib.itoa_neg _ (by omega), canon_back h1, ← h3]
theorem itoa_eq (n : Int) : itoa n = if n < 0 then 45 :: decDigits n.natAbs else decDigits n.natAbs := by
  unfold itoa
  split
  · rfl
  · congr 1; omega
theorem itoa_bare (n : Int) : negS (itoa n) = decide (n < 0) ∧ bareS (itoa n) = decDigits n.natAbs := by
  rw [itoa_eq]
  by_cases h : n < 0
  · rw [if_pos h, decide_eq_true h]
    exact ⟨rfl, rfl⟩
  · rw [if_neg h, decide_eq_false h]
    have h1 := canon_pos (canon_digits n.natAbs)
    exact ⟨h1, bare_pos h1⟩
theorem int_of (n : Int) : IntS (itoa n) ∧ intV (itoa n) = n := by
  obtain ⟨h1, h2⟩ := itoa_bare n
  refine ⟨⟨h2 ▸ canon_digits _, ?_⟩, ?_⟩
  · intro e
    rw [e] at h1 h2
    have h3 : n < 0 := by
      have : negS [45, 48] = true := rfl
      rw [this] at h1
      exact of_decide_eq_true h1.symm
    have h4 : decV (bareS [45, 48]) = 0 := by rfl
    rw [h2, (digits_ok _).2.1] at h4
    omega
  · unfold intV
    rw [h1, h2, (digits_ok _).2.1]
    by_cases h : n < 0
    · rw [decide_eq_true h, if_pos rfl]; omega
    · rw [decide_eq_false h, if_neg (by simp)]; omega
def topS (a : List UInt8) : List UInt8 := a.takeWhile (· != 47)
def lowS (a : List UInt8) : List UInt8 := if 47 ∈ a then (a.dropWhile (· != 47)).tail else [49]
def fracE (a : List UInt8) : Nat :=
  if intE (topS a) = 3 ∨ intE (lowS a) = 3 then 3
  else if intE (topS a) ≠ 0 ∨ intE (lowS a) ≠ 0 then 11
  else if 47 ∉ a then 0
  else if negS (lowS a) = true ∨ decV (lowS a) ≤ 1 ∨ Nat.gcd (decV (bareS (topS a))) (decV (lowS a)) ≠ 1 then 3
  else 0
def fracQ (a : List UInt8) : Rat := mkRat (intV (topS a)) (decV (lowS a))
def fracT (q : Rat) : List UInt8 := itoa q.num ++ (if q.den = 1 then [] else 47 :: decDigits q.den)
theorem split_none {a : List UInt8} (h : 47 ∉ a) : topS a = a ∧ lowS a = [49] := by
  refine ⟨?_, by unfold lowS; rw [if_neg h]⟩
  unfold topS
  induction a with
  | nil => rfl
  | cons c a ih =>
    have h1 : c ≠ 47 := fun e => h (by rw [e]; exact List.mem_cons_self ..)
    have h2 : 47 ∉ a := fun e => h (List.mem_cons_of_mem _ e)
    rw [List.takeWhile_cons, if_pos (by simpa using h1), ih h2]
theorem split_app (s t : List UInt8) (h : 47 ∉ s) : topS (s ++ 47 :: t) = s ∧ lowS (s ++ 47 :: t) = t := by
  unfold topS lowS
  rw [if_pos (by simp)]
  induction s with
  | nil => exact ⟨by simp, by simp⟩
  | cons c s ih =>
    have h1 : c ≠ 47 := fun e => h (by rw [e]; exact List.mem_cons_self ..)
    have h2 : 47 ∉ s := fun e => h (List.mem_cons_of_mem _ e)
    obtain ⟨i1, i2⟩ := ih h2
    rw [List.cons_append, List.takeWhile_cons, if_pos (by simpa using h1), List.dropWhile_cons, if_pos (by simpa using h1), i1, i2]
    exact ⟨rfl, rfl⟩
theorem split_some {a : List UInt8} (h : 47 ∈ a) : a = topS a ++ 47 :: lowS a := by
  unfold topS lowS
  rw [if_pos h]
  induction a with
  | nil => cases h
  | cons c a ih =>
    by_cases h1 : c = 47
    · subst h1; simp
    · have h2 : 47 ∈ a := (List.mem_cons.1 h).resolve_left (fun e => h1 e.symm)
      rw [List.takeWhile_cons, if_pos (by simpa using h1), List.dropWhile_cons, if_pos (by simpa using h1), List.cons_append, ← ih h2]
theorem intE_zero {s : List UInt8} (h : intE s = 0) : IntS s ∧ (intV s).natAbs < 10 ^ 60 := by
  unfold intE at h
  split at h
  · cases h
  · rename_i h1
    split at h
    · cases h
    · rename_i h2
      have h1 : IntS s := Decidable.not_not.1 h1
      refine ⟨h1, ?_⟩
      rw [intV_abs]
      exact Nat.lt_of_lt_of_le (decV_lt h1.1.1) (Nat.pow_le_pow_right (by omega) (by omega))
theorem intE_of {n : Int} (h : n.natAbs < 10 ^ 60) : intE (itoa n) = 0 := by
  unfold intE
  rw [if_neg (not_not_intro (int_of n).1), (itoa_bare n).2, if_neg]
  have := (digits_len_le n.natAbs 60 (by omega)).2 h
  omega
theorem intE_ofNat {n : Nat} (h : n < 10 ^ 60) : intE (decDigits n) = 0 := by
  have := intE_of (n := (n : Int)) (by simpa using h)
  rwa [Go.Lib.itoa_nonneg] at this
theorem decV_one : decV [49] = 1 := rfl
theorem frac_parts {a : List UInt8} (h : fracE a = 0) : IntS (topS a) ∧ (intV (topS a)).natAbs < 10 ^ 60 ∧ CanonL (lowS a) ∧
    0 < decV (lowS a) ∧ decV (lowS a) < 10 ^ 60 ∧ Nat.gcd (intV (topS a)).natAbs (decV (lowS a)) = 1 ∧ (47 ∈ a ↔ decV (lowS a) ≠ 1) := by
  unfold fracE at h
  split at h
  · cases h
  · rename_i h1
    split at h
    · cases h
    · rename_i h2
      obtain ⟨h3, h4⟩ := intE_zero (Decidable.not_not.1 fun e => h2 (Or.inl e))
      obtain ⟨h5, h6⟩ := intE_zero (Decidable.not_not.1 fun e => h2 (Or.inr e))
      split at h
      · rename_i h7
        have h8 := (split_none h7).2
        rw [h8]
        refine ⟨h3, h4, by decide, by decide, by decide, by rw [decV_one, Nat.gcd_one_right], ?_⟩
        exact ⟨fun e => absurd e h7, fun e => absurd decV_one e⟩
      · rename_i h7
        split at h
        · cases h
        · rename_i h8
          simp only [not_or, Nat.not_le, Decidable.not_not] at h8 h7
          obtain ⟨k1, k2, k3⟩ := h8
          have k1 : negS (lowS a) = false := by simpa using k1
          have k4 := bare_pos k1
          rw [intV_abs, k4] at h6
          have k5 := h5.1
          rw [k4] at k5
          refine ⟨h3, h4, k5, by omega, h6, by rw [intV_abs]; exact k3, ⟨fun _ => by omega, fun _ => h7⟩⟩
theorem frac_num {a : List UInt8} (h : fracE a = 0) : (fracQ a).num = intV (topS a) ∧ (fracQ a).den = decV (lowS a) := by
  obtain ⟨_, _, _, h4, _, h6, _⟩ := frac_parts h
  unfold fracQ
  rw [Rat.num_mkRat, Rat.den_mkRat, if_neg (by omega), if_neg (by omega), Nat.gcd_comm, h6]
  exact ⟨by simp, by simp⟩
theorem frac_back {a : List UInt8} (h : fracE a = 0) : fracT (fracQ a) = a := by
  obtain ⟨h1, _, h3, _, _, _, h7⟩ := frac_parts h
  obtain ⟨k1, k2⟩ := frac_num h
  unfold fracT
  rw [k1, k2, int_back h1, canon_back h3]
  by_cases hs : 47 ∈ a
  · rw [if_neg (h7.1 hs)]
    exact (split_some hs).symm
  · rw [if_pos (Decidable.not_not.1 fun e => hs (h7.2 e)), List.append_nil]
    exact (split_none hs).1
theorem no_slash (n : Int) : 47 ∉ itoa n := by
  rw [itoa_eq]
  have h1 : (47 : UInt8) ∉ decDigits n.natAbs := fun h => by
    have := (digits_ok n.natAbs).1 47 h
    simp at this
  split
  · intro h
    rcases List.mem_cons.1 h with h | h
    · cases h
    · exact h1 h
  · exact h1
def FitQ (q : Rat) : Prop := q.num.natAbs < 10 ^ 60 ∧ q.den < 10 ^ 60
instance (q : Rat) : Decidable (FitQ q) := by unfold FitQ; infer_instance
theorem frac_fit {a : List UInt8} (h : fracE a = 0) : FitQ (fracQ a) := by
  obtain ⟨_, h2, _, _, h5, _, _⟩ := frac_parts h
  obtain ⟨k1, k2⟩ := frac_num h
  unfold FitQ
  rw [k1, k2]; exact ⟨h2, h5⟩
theorem frac_of {q : Rat} (h : FitQ q) : fracE (fracT q) = 0 ∧ fracQ (fracT q) = q := by
  obtain ⟨h1, h2⟩ := h
  have hr := q.reduced
  have hd := q.den_nz
  have e : topS (fracT q) = itoa q.num ∧ lowS (fracT q) = decDigits q.den ∧ (47 ∈ fracT q ↔ q.den ≠ 1) := by
    unfold fracT
    by_cases h3 : q.den = 1
    · rw [if_pos h3, List.append_nil, h3]
      obtain ⟨a, b⟩ := split_none (no_slash q.num)
      exact ⟨a, b.trans (digits_small (n := 1) (by omega)).symm, ⟨fun e => absurd e (no_slash _), fun e => absurd rfl e⟩⟩
    · rw [if_neg h3]
      obtain ⟨a, b⟩ := split_app (itoa q.num) (decDigits q.den) (no_slash q.num)
      exact ⟨a, b, ⟨fun _ => h3, fun _ => by simp⟩⟩
  obtain ⟨e1, e2, e3⟩ := e
  constructor
  · unfold fracE
    rw [e1, e2, intE_of h1, intE_ofNat h2, if_neg (by simp), if_neg (by simp), (itoa_bare q.num).2, (digits_ok _).2.1, (digits_ok _).2.1]
    split
    · rfl
    · rename_i h4
      rw [if_neg]
      have h5 := e3.1 (Decidable.not_not.1 h4)
      have h6 := canon_pos (canon_digits q.den)
      rintro (h | h | h)
      · rw [h6] at h; cases h
      · omega
      · exact h hr
  · unfold fracQ
    rw [e1, e2, (int_of _).2, (digits_ok _).2.1, Rat.mkRat_self]
theorem frac_inj {a b : List UInt8} (ha : fracE a = 0) (hb : fracE b = 0) (h : fracQ a = fracQ b) : a = b := by
  rw [← frac_back ha, ← frac_back hb, h]
def madeT (q : Rat) : List UInt8 := if FitQ q then fracT q else []
def madeE (q : Rat) : Nat := if FitQ q then 0 else 11
end Go.Proofs.YtmndcdjcodfchaaGreatDoor
namespace Go.Proofs.YtmndcdjcodfchaaGreatDoor
open Go.Lib (decDigits itoa)
def sgnI (s : Bool) (t : Nat) : Int := if s then -(t : Int) else t
def numQ (s : Bool) (t d : Nat) : Rat := mkRat (sgnI s t) d
theorem sgnI_abs (s : Bool) (t : Nat) : (sgnI s t).natAbs = t := by unfold sgnI; split <;> omega
theorem num_of {s : Bool} {t d : Nat} (hd : d ≠ 0) : (numQ s t d).num = sgnI s (t / Nat.gcd t d) ∧ (numQ s t d).den = d / Nat.gcd t d := by
  unfold numQ
  rw [Rat.num_mkRat, Rat.den_mkRat, if_neg hd, if_neg hd, sgnI_abs, Nat.gcd_comm d t]
  refine ⟨?_, rfl⟩
  unfold sgnI
  cases s
  · simp
  · have h : ((Nat.gcd t d : Nat) : Int) ∣ (t : Int) := Int.natCast_dvd_natCast.2 (Nat.gcd_dvd_left t d)
    simp only [if_true]
    rw [Int.neg_ediv_of_dvd h, ← Int.natCast_ediv]
theorem num_neg (s : Bool) (t d : Nat) : numQ (!s) t d = -numQ s t d := by
  unfold numQ
  rw [Rat.neg_mkRat]
  congr 1
  unfold sgnI
  cases s <;> simp
theorem num_same (s : Bool) (a b c d : Nat) (hb : b ≠ 0) (hd : d ≠ 0) : numQ s (a * d + c * b) (b * d) = numQ s a b + numQ s c d := by
  unfold numQ
  rw [Rat.mkRat_add_mkRat _ _ hb hd]
  congr 1
  unfold sgnI
  cases s
  · simp
  · simp only [if_true]
    rw [Int.natCast_add, Int.natCast_mul, Int.natCast_mul, Int.neg_mul, Int.neg_mul]
    omega
theorem num_less (s u : Bool) (hsu : s ≠ u) (a b c d : Nat) (hb : b ≠ 0) (hd : d ≠ 0) (h : c * b ≤ a * d) :
    numQ s (a * d - c * b) (b * d) = numQ s a b + numQ u c d := by
  unfold numQ
  rw [Rat.mkRat_add_mkRat _ _ hb hd]
  congr 1
  have hu : u = !s := by cases s <;> cases u <;> simp_all
  subst hu
  unfold sgnI
  cases s
  · simp only [Bool.not_false, if_true, Bool.false_eq_true, if_false]
    rw [Int.ofNat_sub h, Int.natCast_mul, Int.natCast_mul, Int.neg_mul]
    omega
  · simp only [Bool.not_true, if_true, Bool.false_eq_true, if_false]
    rw [Int.ofNat_sub h, Int.natCast_mul, Int.natCast_mul, Int.neg_mul]
    omega
theorem num_more (s u : Bool) (hsu : s ≠ u) (a b c d : Nat) (hb : b ≠ 0) (hd : d ≠ 0) (h : a * d ≤ c * b) :
    numQ u (c * b - a * d) (b * d) = numQ s a b + numQ u c d := by
  rw [Nat.mul_comm b d, num_less u s (fun e => hsu e.symm) c d a b hd hb h, Rat.add_comm]
theorem num_mul (s u : Bool) (a b c d : Nat) : numQ (s != u) (a * c) (b * d) = numQ s a b * numQ u c d := by
  unfold numQ
  rw [Rat.mkRat_mul_mkRat]
  congr 1
  unfold sgnI
  cases s <;> cases u <;> simp [Int.neg_mul, Int.mul_neg]
theorem num_text {s : Bool} {t d : Nat} (hd : d ≠ 0) : fracT (numQ s t d) =
    (if s && decide (t / Nat.gcd t d ≠ 0) then 45 :: decDigits (t / Nat.gcd t d) else decDigits (t / Nat.gcd t d)) ++
      (if d / Nat.gcd t d = 1 then [] else 47 :: decDigits (d / Nat.gcd t d)) := by
  obtain ⟨h1, h2⟩ := num_of (s := s) (t := t) hd
  unfold fracT
  rw [h1, h2, itoa_eq, sgnI_abs]
  generalize t / Nat.gcd t d = x
  congr 1
  unfold sgnI
  cases s
  · simp
  · by_cases h : x = 0
    · subst h; simp
    · rw [if_pos (by simp; omega), if_pos (by simpa using h)]
theorem num_fit {s : Bool} {t d : Nat} (hd : d ≠ 0) : FitQ (numQ s t d) ↔
    (decDigits (t / Nat.gcd t d)).length ≤ 60 ∧ (decDigits (d / Nat.gcd t d)).length ≤ 60 := by
  obtain ⟨h1, h2⟩ := num_of (s := s) (t := t) hd
  unfold FitQ
  rw [h1, h2, sgnI_abs, digits_len_le _ _ (by omega), digits_len_le _ _ (by omega)]
theorem num_sign {s : Bool} {t d : Nat} (hd : d ≠ 0) : (numQ s t d).num.sign = if t = 0 then 0 else if s then -1 else 1 := by
  obtain ⟨h1, _⟩ := num_of (s := s) (t := t) hd
  rw [h1]
  have hg : 0 < Nat.gcd t d := Nat.gcd_pos_of_pos_right t (Nat.pos_of_ne_zero hd)
  by_cases h : t = 0
  · subst h
    rw [if_pos rfl, Nat.zero_div]
    unfold sgnI
    cases s <;> rfl
  · rw [if_neg h]
    have h2 : 0 < t / Nat.gcd t d := Nat.div_pos (Nat.le_of_dvd (by omega) (Nat.gcd_dvd_left t d)) hg
    generalize t / Nat.gcd t d = x at h2
    unfold sgnI
    cases s
    · simp only [Bool.false_eq_true, if_false]
      exact Int.sign_eq_one_of_pos (by omega)
    · simp only [if_true]
      exact Int.sign_eq_neg_one_of_neg (by omega)
abbrev Num := Bool × Nat × Nat
def valQ (x : Num) : Rat := numQ x.1 x.2.1 x.2.2
def sumN (x y : Num) : Num :=
  if x.1 = y.1 then (x.1, x.2.1 * y.2.2 + y.2.1 * x.2.2, x.2.2 * y.2.2)
  else if y.2.1 * x.2.2 ≤ x.2.1 * y.2.2 then (x.1, x.2.1 * y.2.2 - y.2.1 * x.2.2, x.2.2 * y.2.2)
  else (y.1, y.2.1 * x.2.2 - x.2.1 * y.2.2, x.2.2 * y.2.2)
def negN (x : Num) : Num := (!x.1, x.2.1, x.2.2)
def mulN (x y : Num) : Num := (x.1 != y.1, x.2.1 * y.2.1, x.2.2 * y.2.2)
theorem sumN_val {x y : Num} (hx : x.2.2 ≠ 0) (hy : y.2.2 ≠ 0) : valQ (sumN x y) = valQ x + valQ y ∧ (sumN x y).2.2 ≠ 0 := by
  obtain ⟨s, a, b⟩ := x
  obtain ⟨u, c, d⟩ := y
  unfold sumN valQ
  dsimp only at *
  have hbd : b * d ≠ 0 := Nat.mul_ne_zero hx hy
  by_cases h : s = u
  · subst h
    rw [if_pos rfl]
    exact ⟨num_same s a b c d hx hy, hbd⟩
  · rw [if_neg h]
    by_cases k : c * b ≤ a * d
    · rw [if_pos k]
      exact ⟨num_less s u h a b c d hx hy k, hbd⟩
    · rw [if_neg k]
      exact ⟨num_more s u h a b c d hx hy (by omega), hbd⟩
theorem negN_val (x : Num) : valQ (negN x) = -valQ x := num_neg _ _ _
theorem mulN_val (x y : Num) : valQ (mulN x y) = valQ x * valQ y := num_mul _ _ _ _ _ _
def numOf (a : List UInt8) : Num := (negS (topS a), decV (bareS (topS a)), decV (lowS a))
theorem numOf_val (a : List UInt8) : valQ (numOf a) = fracQ a := rfl
end Go.Proofs.YtmndcdjcodfchaaGreatDoor
namespace Go.Proofs.YtmndcdjcodfchaaGreatDoor
open Go.Lib (decDigits itoa)
def FitB (K : Nat) (q : Rat) : Prop := q.num.natAbs < 10 ^ K ∧ q.den < 10 ^ K
theorem FitB.mono {K L : Nat} {q : Rat} (h : FitB K q) (hk : K ≤ L) : FitB L q :=
  ⟨Nat.lt_of_lt_of_le h.1 (Nat.pow_le_pow_right (by omega) hk), Nat.lt_of_lt_of_le h.2 (Nat.pow_le_pow_right (by omega) hk)⟩
theorem FitB.fit {K : Nat} {q : Rat} (h : FitB K q) (hk : K ≤ 60) : FitQ q := h.mono hk
theorem pow_mul_lt {a b K L : Nat} (h : a < 10 ^ K) (k : b < 10 ^ L) : a * b < 10 ^ (K + L) := by
  rw [Nat.pow_add]
  exact Nat.mul_lt_mul'' h k
theorem fit_mk {n : Int} {d K : Nat} (hd : d ≠ 0) (hn : n.natAbs < 10 ^ K) (h : d < 10 ^ K) : FitB K (mkRat n d) := by
  unfold FitB
  rw [Rat.num_mkRat, Rat.den_mkRat, if_neg hd, if_neg hd]
  exact ⟨Nat.lt_of_le_of_lt (Int.natAbs_ediv_le_natAbs _ _) hn, Nat.lt_of_le_of_lt (Nat.div_le_self _ _) h⟩
theorem FitB.mul {K L : Nat} {q r : Rat} (h : FitB K q) (k : FitB L r) : FitB (K + L) (q * r) := by
  rw [Rat.mul_def']
  refine fit_mk (Nat.mul_ne_zero q.den_nz r.den_nz) ?_ (pow_mul_lt h.2 k.2)
  rw [Int.natAbs_mul]
  exact pow_mul_lt h.1 k.1
theorem FitB.add {K L : Nat} {q r : Rat} (h : FitB K q) (k : FitB L r) : FitB (K + L + 1) (q + r) := by
  rw [Rat.add_def']
  have h1 := pow_mul_lt h.1 k.2
  have h2 := pow_mul_lt h.2 k.1
  have h3 := pow_mul_lt h.2 k.2
  have e : 10 ^ (K + L + 1) = 10 * 10 ^ (K + L) := by rw [Nat.pow_succ, Nat.mul_comm]
  refine fit_mk (Nat.mul_ne_zero q.den_nz r.den_nz) ?_ (by omega)
  have h4 := Int.natAbs_add_le (q.num * r.den) (r.num * q.den)
  rw [Int.natAbs_mul, Int.natAbs_mul] at h4
  simp only [Int.natAbs_natCast] at h4
  rw [Nat.mul_comm r.num.natAbs] at h4
  omega
theorem made_fit {q : Rat} (h : FitQ q) : madeE q = 0 ∧ madeT q = fracT q := by
  unfold madeE madeT
  rw [if_pos h, if_pos h]
  exact ⟨rfl, rfl⟩
theorem fracT_int (n : Int) : fracT (n : Rat) = itoa n := by
  unfold fracT
  rw [Rat.num_intCast, Rat.den_intCast, if_pos rfl, List.append_nil]
theorem fit_int {n : Int} {K : Nat} (hK : 0 < K) (h : n.natAbs < 10 ^ K) : FitB K (n : Rat) := by
  unfold FitB
  rw [Rat.num_intCast, Rat.den_intCast]
  refine ⟨h, ?_⟩
  have := Nat.pow_le_pow_right (n := 10) (by omega) (show 1 ≤ K by omega)
  omega
end Go.Proofs.YtmndcdjcodfchaaGreatDoor
namespace Go.Proofs.YtmndcdjcodfchaaGreatDoor
open Go.Lib (decDigits itoa)
end Go.Proofs.YtmndcdjcodfchaaGreatDoor
namespace Go.Proofs.YtmndcdjcodfchaaGreatDoor
open Go.Lib (decDigits itoa)
abbrev Txt := List UInt8
abbrev Res := Txt × Nat
def resQ (q : Rat) : Res := (madeT q, madeE q)
def ifOk {α : Type} (e : Nat) (bad : Nat → α) (good : α) : α := if e = 0 then good else bad e
def bothE (a b : Txt) : Nat := if fracE a = 0 then fracE b else fracE a
def badR (e : Nat) : Res := ([], e)
def addS (a b : Txt) : Res := ifOk (bothE a b) badR (resQ (fracQ a + fracQ b))
def mulS (a b : Txt) : Res := ifOk (bothE a b) badR (resQ (fracQ a * fracQ b))
def cmpS (a b : Txt) : Int × Nat := ifOk (bothE a b) (fun e => (0, e)) ((fracQ a - fracQ b).num.sign, 0)
def signS (a : Txt) : Int × Nat := ifOk (fracE a) (fun e => (0, e)) ((fracQ a).num.sign, 0)
end Go.Proofs.YtmndcdjcodfchaaGreatDoor
namespace Go.Proofs.YtmndcdjcodfchaaGreatDoor
open Go.Lib (decDigits itoa)
structure Good (K : Nat) (t : Txt) (q : Rat) : Prop where
  ok : fracE t = 0
  val : fracQ t = q
  fit : FitB K q
theorem Good.of {K : Nat} {q : Rat} (h : FitB K q) (hK : K ≤ 60) : resQ q = (fracT q, 0) ∧ Good K (fracT q) q := by
  obtain ⟨h1, h2⟩ := made_fit (h.fit hK)
  obtain ⟨h3, h4⟩ := frac_of (h.fit hK)
  exact ⟨by unfold resQ; rw [h1, h2], ⟨h3, h4, h⟩⟩
theorem Good.both {K L : Nat} {s t : Txt} {q r : Rat} (h : Good K s q) (k : Good L t r) : bothE s t = 0 := by
  unfold bothE; rw [if_pos h.ok]; exact k.ok
theorem Good.add {K L : Nat} {s t : Txt} {q r : Rat} (h : Good K s q) (k : Good L t r) (hK : K + L + 1 ≤ 60) : addS s t = (fracT (q + r), 0) ∧ Good (K + L + 1) (fracT (q + r)) (q + r) := by
  obtain ⟨h1, h2⟩ := Good.of (h.fit.add k.fit) hK
  refine ⟨?_, h2⟩
  unfold addS ifOk
  rw [if_pos (h.both k), h.val, k.val, h1]
theorem Good.mul {K L : Nat} {s t : Txt} {q r : Rat} (h : Good K s q) (k : Good L t r) (hK : K + L ≤ 60) : mulS s t = (fracT (q * r), 0) ∧ Good (K + L) (fracT (q * r)) (q * r) := by
  obtain ⟨h1, h2⟩ := Good.of (h.fit.mul k.fit) hK
  refine ⟨?_, h2⟩
  unfold mulS ifOk
  rw [if_pos (h.both k), h.val, k.val, h1]
theorem int_good {n : Int} {K : Nat} (hK : 0 < K) (h60 : K ≤ 60) (h : n.natAbs < 10 ^ K) : Good K (itoa n) (n : Rat) := by
  rw [← fracT_int]
  exact (Good.of (fit_int hK h) h60).2
theorem zero_good : Good 1 [48] 0 := by
  have h := int_good (n := 0) (K := 1) (by omega) (by omega) (by decide)
  rwa [show itoa 0 = [48] from (Go.Lib.itoa_nonneg 0).trans (digits_small (by omega)), Rat.intCast_zero] at h
theorem Good.inj {K L : Nat} {s t : Txt} {q : Rat} (h : Good K s q) (k : Good L t q) : s = t := frac_inj h.ok k.ok (h.val.trans k.val.symm)
theorem Good.zero {K : Nat} {s : Txt} {q : Rat} (h : Good K s q) : s = [48] ↔ q = 0 := by
  constructor
  · rintro rfl; rw [← h.val]; exact zero_good.val
  · rintro rfl; exact h.inj zero_good
theorem Good.cmp {K L : Nat} {s t : Txt} {q r : Rat} (h : Good K s q) (k : Good L t r) : cmpS s t = ((q - r).num.sign, 0) := by
  unfold cmpS ifOk
  rw [if_pos (h.both k), h.val, k.val]
theorem Good.sign {K : Nat} {s : Txt} {q : Rat} (h : Good K s q) : signS s = (q.num.sign, 0) := by
  unfold signS ifOk
  rw [if_pos h.ok, h.val]
end Go.Proofs.YtmndcdjcodfchaaGreatDoor
namespace Go.Proofs.YtmndcdjcodfchaaGreatDoor
open Go.Lib (decDigits itoa)
theorem frac_l400 {a : Txt} (h : fracE a = 0) : a.length ≤ 400 := by
  obtain ⟨h1, h2, h3, h4, h5, _, _⟩ := frac_parts h
  have hb : (bareS (topS a)).length ≤ 60 := by
    rw [← canon_back h1.1]
    rw [intV_abs] at h2
    exact (digits_len_le _ 60 (by omega)).2 h2
  have hd : (lowS a).length ≤ 60 := by
    rw [← canon_back h3]
    exact (digits_len_le _ 60 (by omega)).2 h5
  have ht : (topS a).length ≤ (bareS (topS a)).length + 1 := by
    unfold bareS
    split
    · rw [List.length_tail]; omega
    · omega
  by_cases hs : 47 ∈ a
  · have e := congrArg List.length (split_some hs)
    rw [List.length_append, List.length_cons] at e
    omega
  · have e := (split_none hs).1
    rw [e] at ht hb
    omega
def FitAB (A B : Nat) (q : Rat) : Prop := q.num.natAbs ≤ A ∧ q.den ≤ B
theorem fit_mkAB {n : Int} {d A B : Nat} (hd : d ≠ 0) (hn : n.natAbs ≤ A) (h : d ≤ B) : FitAB A B (mkRat n d) := by
  unfold FitAB
  rw [Rat.num_mkRat, Rat.den_mkRat, if_neg hd, if_neg hd]
  exact ⟨Nat.le_trans (Int.natAbs_ediv_le_natAbs _ _) hn, Nat.le_trans (Nat.div_le_self _ _) h⟩
theorem FitAB.mul {A B C D : Nat} {q r : Rat} (h : FitAB A B q) (k : FitAB C D r) : FitAB (A * C) (B * D) (q * r) := by
  rw [Rat.mul_def']
  refine fit_mkAB (Nat.mul_ne_zero q.den_nz r.den_nz) ?_ (Nat.mul_le_mul h.2 k.2)
  rw [Int.natAbs_mul]
  exact Nat.mul_le_mul h.1 k.1
theorem FitAB.add {A B C D : Nat} {q r : Rat} (h : FitAB A B q) (k : FitAB C D r) : FitAB (A * D + C * B) (B * D) (q + r) := by
  rw [Rat.add_def']
  refine fit_mkAB (Nat.mul_ne_zero q.den_nz r.den_nz) ?_ (Nat.mul_le_mul h.2 k.2)
  have h4 := Int.natAbs_add_le (q.num * r.den) (r.num * q.den)
  rw [Int.natAbs_mul, Int.natAbs_mul] at h4
  simp only [Int.natAbs_natCast] at h4
  exact Nat.le_trans h4 (Nat.add_le_add (Nat.mul_le_mul h.1 k.2) (Nat.mul_le_mul k.1 h.2))
theorem FitAB.mono {A B C D : Nat} {q : Rat} (h : FitAB A B q) (h1 : A ≤ C) (h2 : B ≤ D) : FitAB C D q := ⟨Nat.le_trans h.1 h1, Nat.le_trans h.2 h2⟩
theorem price_fit {a : List UInt8} (h : fracE a = 0) (hl : a.length ≤ 12) : FitAB (10 ^ 12) (10 ^ 10) (fracQ a) := by
  obtain ⟨h1, _, h3, _, _, _, h7⟩ := frac_parts h
  obtain ⟨k1, k2⟩ := frac_num h
  have hb : (bareS (topS a)).length ≤ (topS a).length := by
    unfold bareS
    split
    · rw [List.length_tail]; omega
    · exact Nat.le_refl _
  have hlt : (topS a).length ≤ 12 ∧ (lowS a).length ≤ 10 := by
    by_cases hs : 47 ∈ a
    · have e := congrArg List.length (split_some hs)
      rw [List.length_append, List.length_cons] at e
      have hne : topS a ≠ [] := by
        intro h0
        have := h1.1.2.1
        rw [h0] at this
        exact this (by unfold bareS; rfl)
      have : 0 < (topS a).length := List.length_pos_iff.2 hne
      omega
    · obtain ⟨a1, a2⟩ := split_none hs
      rw [a1, a2]
      exact ⟨hl, by simp⟩
  unfold FitAB
  rw [k1, k2, intV_abs]
  exact ⟨Nat.le_of_lt (Nat.lt_of_lt_of_le (decV_lt h1.1.1) (Nat.pow_le_pow_right (by omega) (by omega))),
    Nat.le_of_lt (Nat.lt_of_lt_of_le (decV_lt h3.1) (Nat.pow_le_pow_right (by omega) (by omega)))⟩
def worthQ (parts : List Int) (prices : List Txt) : Nat → Rat
  | 0 => 0
  | j + 1 => worthQ parts prices j + (parts.getD j 0 : Rat) * fracQ (prices.getD j [])
theorem worth_fit {parts : List Int} {prices : List Txt} (hp : ∀ x ∈ parts, 0 ≤ x ∧ x ≤ 1048576) (hq : ∀ a ∈ prices, fracE a = 0 ∧ a.length ≤ 12) : ∀ j, j ≤ parts.length → j ≤ prices.length → FitAB (j * (1048576 * 10 ^ 12) * 10 ^ (10 * j)) (10 ^ (10 * j)) (worthQ parts prices j) := by
  intro j
  induction j with
  | zero =>
    intro _ _
    unfold worthQ
    exact ⟨Nat.zero_le _, Nat.le_refl 1⟩
  | succ j ih =>
    intro h1 h2
    have i1 := ih (by omega) (by omega)
    have i2 := hp _ (getD_mem (d := 0) (show j < parts.length by omega))
    obtain ⟨i3, i4⟩ := hq _ (getD_mem (d := []) (show j < prices.length by omega))
    have i5 : FitAB 1048576 1 ((parts.getD j 0 : Int) : Rat) := by
      unfold FitAB
      rw [Rat.num_intCast, Rat.den_intCast]
      exact ⟨by omega, Nat.le_refl _⟩
    have i6 := i1.add (i5.mul (price_fit i3 i4))
    unfold worthQ
    have e : 10 ^ (10 * (j + 1)) = 10 ^ (10 * j) * 10 ^ 10 := by rw [← Nat.pow_add]; congr 1
    refine i6.mono ?_ (by rw [e, Nat.one_mul]; exact Nat.le_refl _)
    rw [e, Nat.one_mul]
    generalize 10 ^ (10 * j) = x
    have : (j + 1) * (1048576 * 10 ^ 12) * (x * 10 ^ 10) = j * (1048576 * 10 ^ 12) * x * 10 ^ 10 + 1048576 * 10 ^ 12 * (x * 10 ^ 10) := by
      rw [Nat.add_mul, Nat.add_mul, Nat.one_mul, Nat.mul_assoc (j * (1048576 * 10 ^ 12)) x]
    rw [this]
    refine Nat.add_le_add_left (Nat.mul_le_mul_left _ ?_) _
    exact Nat.le_mul_of_pos_right x (by decide)
theorem worth_good {parts : List Int} {prices : List Txt} (hp : ∀ x ∈ parts, 0 ≤ x ∧ x ≤ 1048576) (hq : ∀ a ∈ prices, fracE a = 0 ∧ a.length ≤ 12) {j : Nat} (h1 : j ≤ parts.length) (h2 : j ≤ prices.length) (h4 : j ≤ 4) : Good 60 (fracT (worthQ parts prices j)) (worthQ parts prices j) := by
  refine (Good.of (K := 60) ?_ (Nat.le_refl _)).2
  have h := worth_fit hp hq j h1 h2
  have a1 : j * (1048576 * 10 ^ 12) * 10 ^ (10 * j) ≤ 4 * (1048576 * 10 ^ 12) * 10 ^ 40 := Nat.mul_le_mul (Nat.mul_le_mul_right _ h4) (Nat.pow_le_pow_right (by omega) (by omega))
  have a2 : 10 ^ (10 * j) ≤ 10 ^ 40 := Nat.pow_le_pow_right (by omega) (by omega)
  exact ⟨Nat.lt_of_le_of_lt (Nat.le_trans h.1 a1) (by decide), Nat.lt_of_le_of_lt (Nat.le_trans h.2 a2) (by decide)⟩
theorem worth_step {parts : List Int} {prices : List Txt} (hp : ∀ x ∈ parts, 0 ≤ x ∧ x ≤ 1048576) (hq : ∀ a ∈ prices, fracE a = 0 ∧ a.length ≤ 12) {j : Nat} (h1 : j < parts.length) (h2 : j < prices.length) (h4 : j < 4) :
    ∃ t, mulS (itoa (parts.getD j 0)) (prices.getD j []) = (t, 0) ∧ t.length ≤ 400 ∧ addS (fracT (worthQ parts prices j)) t = (fracT (worthQ parts prices (j + 1)), 0) := by
  have i2 := hp _ (getD_mem (d := 0) (show j < parts.length by omega))
  obtain ⟨i3, i4⟩ := hq _ (getD_mem (d := []) (show j < prices.length by omega))
  have g1 := int_good (n := parts.getD j 0) (K := 7) (by omega) (by omega) (by omega)
  have g2 : Good 13 (prices.getD j []) (fracQ (prices.getD j [])) := ⟨i3, rfl, by
    have h := price_fit i3 i4
    exact ⟨Nat.lt_of_le_of_lt h.1 (by decide), Nat.lt_of_le_of_lt h.2 (by decide)⟩⟩
  obtain ⟨g3, g4⟩ := g1.mul g2 (by omega)
  refine ⟨_, g3, frac_l400 g4.ok, ?_⟩
  have g5 := worth_good hp hq (j := j) (by omega) (by omega) (by omega)
  have g6 := worth_good hp hq (j := j + 1) (by omega) (by omega) (by omega)
  unfold addS ifOk
  rw [if_pos (g5.both g4), g5.val, g4.val]
  exact (Good.of g6.fit (Nat.le_refl _)).1
end Go.Proofs.YtmndcdjcodfchaaGreatDoor
namespace Go.Proofs.YtmndcdjcodfchaaGreatDoor
open Go.Lib (decDigits itoa)
def prE (a : Txt) : Int := if fracE a ≠ 0 then (fracE a : Int) else if negS a = true then 2 else 0
def priceE : List Txt → Int
  | [] => 0
  | a :: l => if prE a ≠ 0 then prE a else priceE l
theorem price_hit {e : Int} : ∀ {l : List Txt} {k : Nat}, (∀ j, j < k → prE (l.getD j []) = 0) → k < l.length → prE (l.getD k []) = e → e ≠ 0 → priceE l = e := by
  intro l
  induction l with
  | nil => intro k _ h; exact absurd h (Nat.not_lt_zero k)
  | cons a l ih =>
    intro k h1 h2 h3 h4
    unfold priceE
    cases k with
    | zero =>
      have h3 : prE a = e := h3
      rw [h3, if_pos h4]
    | succ k =>
      have h0 : prE a = 0 := h1 0 (by omega)
      rw [h0, if_neg (by simp)]
      exact ih (k := k) (fun j hj => h1 (j + 1) (by omega)) (by simpa using h2) h3 h4
theorem price_end : ∀ {l : List Txt}, (∀ j, j < l.length → prE (l.getD j []) = 0) → priceE l = 0 := by
  intro l
  induction l with
  | nil => intro _; rfl
  | cons a l ih =>
    intro h
    unfold priceE
    have h0 : prE a = 0 := h 0 (Nat.zero_lt_succ _)
    rw [h0, if_neg (by simp)]
    exact ih fun j hj => h (j + 1) (by simpa using hj)
theorem prE_a {a : Txt} (h : fracE a ≠ 0) : prE a = (fracE a : Int) := by unfold prE; rw [if_pos h]
theorem prE_b {a : Txt} (h : fracE a = 0) (h2 : negS a = true) : prE a = 2 := by unfold prE; rw [if_neg (fun k => k h), if_pos h2]
theorem prE_c {a : Txt} (h : fracE a = 0) (h2 : negS a = false) : prE a = 0 := by unfold prE; rw [if_neg (fun k => k h), if_neg (by rw [h2]; simp)]
theorem prE_ok {a : Txt} (h : prE a = 0) : fracE a = 0 := by
  unfold prE at h
  by_cases h0 : fracE a = 0
  · exact h0
  · rw [if_pos h0] at h; omega
def overB (prices : List Txt) (p : Pk) : Bool := decide (0 < (worthQ p.parts prices p.parts.length - ((p.price : Int) : Rat)).num.sign)
def boundS (pks : List Pk) (need : List Int) (prices : List Txt) : Txt × Int :=
  if checkS pks need ≠ 0 then ([], checkS pks need) else if prices.length ≠ need.length then ([], 8) else if priceE prices ≠ 0 then ([], priceE prices)
  else if pks.any (overB prices) = true then ([], 15) else (fracT (worthQ need prices need.length), 0)
theorem bound_a {pks : List Pk} {need : List Int} {prices : List Txt} (h : checkS pks need ≠ 0) : boundS pks need prices = ([], checkS pks need) := by unfold boundS; rw [if_pos h]
theorem bound_b {pks : List Pk} {need : List Int} {prices : List Txt} (h : checkS pks need = 0) (h2 : prices.length ≠ need.length) : boundS pks need prices = ([], 8) := by unfold boundS; rw [if_neg (fun k => k h), if_pos h2]
theorem bound_c {pks : List Pk} {need : List Int} {prices : List Txt} (h : checkS pks need = 0) (h2 : prices.length = need.length) (h3 : priceE prices ≠ 0) : boundS pks need prices = ([], priceE prices) := by
  unfold boundS; rw [if_neg (fun k => k h), if_neg (fun k => k h2), if_pos h3]
theorem bound_d {pks : List Pk} {need : List Int} {prices : List Txt} (h : checkS pks need = 0) (h2 : prices.length = need.length) (h3 : priceE prices = 0) {k : Nat} (hk : k < pks.length) (hb : overB prices (pks.getD k pk0) = true) : boundS pks need prices = ([], 15) := by
  unfold boundS; rw [if_neg (fun k => k h), if_neg (fun k => k h2), if_neg (fun k => k h3), if_pos (List.any_eq_true.2 ⟨_, getD_mem hk, hb⟩)]
theorem bound_e {pks : List Pk} {need : List Int} {prices : List Txt} (h : checkS pks need = 0) (h2 : prices.length = need.length) (h3 : priceE prices = 0) (hb : ∀ k, k < pks.length → overB prices (pks.getD k pk0) = false) : boundS pks need prices = (fracT (worthQ need prices need.length), 0) := by
  unfold boundS
  rw [if_neg (fun k => k h), if_neg (fun k => k h2), if_neg (fun k => k h3), if_neg]
  rw [Bool.not_eq_true, List.any_eq_false]
  intro x hx
  obtain ⟨i, hi, e⟩ := List.mem_iff_getElem.1 hx
  have := hb i hi
  rw [getD_of hi, e] at this
  rw [this]; simp
theorem over_cmp {prices : List Txt} {p : Pk} (hp : ∀ x ∈ p.parts, 0 ≤ x ∧ x ≤ 1048576) (hpr : 0 ≤ p.price ∧ p.price ≤ 1048576) (hq : ∀ a ∈ prices, fracE a = 0 ∧ a.length ≤ 12) (hl : p.parts.length ≤ prices.length) (h4 : p.parts.length ≤ 4) :
    ∃ z : Int, cmpS (fracT (worthQ p.parts prices p.parts.length)) (itoa p.price) = (z, 0) ∧ (fracQ (fracT (worthQ p.parts prices p.parts.length)) - fracQ (itoa p.price)).num.sign = z ∧ overB prices p = decide (0 < z) ∧
      fracE (fracT (worthQ p.parts prices p.parts.length)) = 0 ∧ fracE (itoa p.price) = 0 ∧ (fracT (worthQ p.parts prices p.parts.length)).length ≤ 400 ∧ (itoa p.price).length ≤ 400 := by
  have g1 := worth_good hp hq (j := p.parts.length) (Nat.le_refl _) hl h4
  have g2 := int_good (n := p.price) (K := 7) (by omega) (by omega) (by omega)
  exact ⟨_, g1.cmp g2, by rw [g1.val, g2.val], rfl, g1.ok, g2.ok, frac_l400 g1.ok, frac_l400 g2.ok⟩
end Go.Proofs.YtmndcdjcodfchaaGreatDoor
namespace Go.Proofs.YtmndcdjcodfchaaGreatDoor
open Go.RowKit
end Go.Proofs.YtmndcdjcodfchaaGreatDoor
namespace Go.Proofs.YtmndcdjcodfchaaGreatDoor
open Go.RowKit
structure PlusWR (la lb : List Nat) (w0 : World) (i c : Nat) (v : Value) (w : World) : Prop where
  ex : ∃ o, PlusI 1000000 la lb i c o ∧ OwnsN .i64 3 w v o ∧ (i ≤ plusM la lb ∨ (i = plusM la lb + 1 ∧ c = 0 ∧ 1000000 ^ (i - 1) ≤ valB 1000000 o))
  new : ∀ b, v.ownBlock = some b → w0.heap.size ≤ b
theorem PlusWR.done {la lb : List Nat} {w0 w : World} {i : Nat} {v : Value} {x y : Nat} (h : PlusWR la lb w0 i 0 v w) (hi : plusM la lb ≤ i)
    (ha : la = toB 1000000 x) (hb : lb = toB 1000000 y) : OwnsN .i64 3 w v (toB 1000000 (x + y)) := by
  obtain ⟨o, h1, h2, h3⟩ := h.ex
  have hM : la.length ≤ plusM la lb ∧ lb.length ≤ plusM la lb := ⟨Nat.le_max_left _ _, Nat.le_max_right _ _⟩
  have e := h1.done (by omega) (ha ▸ trim_toB (by omega) x) (hb ▸ trim_toB (by omega) y) ⟨by omega, by omega⟩ (by
    rcases h3 with h3 | h3
    · exact .inl (by unfold plusM at *; omega)
    · exact .inr h3.2.2)
  rw [ha, hb, valB_toB (by omega), valB_toB (by omega)] at e
  rw [← e]; exact h2
theorem PlusWR.step {la lb o : List Nat} {w0 w' : World} {i c : Nat} {v' : Value} (h1 : PlusI 1000000 la lb i c o)
    (h3 : i ≤ plusM la lb ∨ (i = plusM la lb + 1 ∧ c = 0 ∧ 1000000 ^ (i - 1) ≤ valB 1000000 o)) (ha : OkB 1000000 la) (hb : OkB 1000000 lb)
    (hgo : i < plusM la lb ∨ 0 < c) {r d : Nat} (hr : r = (c + la.getD i 0 + lb.getD i 0) % 1000000) (hd : d = (c + la.getD i 0 + lb.getD i 0) / 1000000)
    (hown : OwnsN .i64 3 w' v' (o ++ [r])) (hnew : ∀ b, v'.ownBlock = some b → w0.heap.size ≤ b) : PlusWR la lb w0 (i + 1) d v' w' := by
  subst hr hd
  refine ⟨⟨_, h1.next (by omega) ha hb, hown, ?_⟩, hnew⟩
  have hc := h1.c1
  by_cases hi : i < plusM la lb
  · exact .inl hi
  · have hia : la.length ≤ i := by unfold plusM at hi; omega
    have hib : lb.length ≤ i := by unfold plusM at hi; omega
    have e1 : la.getD i 0 = 0 := by rw [List.getD_eq_getElem?_getD, List.getElem?_eq_none hia]; rfl
    have e2 : lb.getD i 0 = 0 := by rw [List.getD_eq_getElem?_getD, List.getElem?_eq_none hib]; rfl
    rcases h3 with h3 | h3
    · right
      have e3 : c = 1 := by omega
      rw [e1, e2, e3]
      refine ⟨by omega, by decide, ?_⟩
      rw [valB_snoc, h1.len]
      have : (1 + 0 + 0) % 1000000 = 1 := by decide
      rw [this]
      simp
    · omega
end Go.Proofs.YtmndcdjcodfchaaGreatDoor
namespace Go.Proofs.YtmndcdjcodfchaaGreatDoor
open Go.RowKit
end Go.Proofs.YtmndcdjcodfchaaGreatDoor
namespace Go.Proofs.YtmndcdjcodfchaaGreatDoor
open Go.RowKit
end Go.Proofs.YtmndcdjcodfchaaGreatDoor
namespace Go.Proofs.YtmndcdjcodfchaaGreatDoor
open Go.RowKit
theorem ordN_lt {a b : Nat} (h : a < b) : ordN a b = -1 := by unfold ordN; rw [if_pos h]
theorem ordN_gt {a b : Nat} (h : b < a) : ordN a b = 1 := by unfold ordN; rw [if_neg (by omega), if_pos h]
theorem ordN_eq {a b : Nat} (h : a = b) : ordN a b = 0 := by unfold ordN; rw [if_neg (by omega), if_neg (by omega)]
end Go.Proofs.YtmndcdjcodfchaaGreatDoor
namespace Go.Proofs.YtmndcdjcodfchaaGreatDoor
open Go.RowKit
def ordI (a b : Int) : Int := if a < b then -1 else if b < a then 1 else 0
set_option maxHeartbeats 400000 in
theorem isNaNI_any (a : Int) (w : World) :
    Calls Tryz.prog 145 #[.int .i64 a] w fun e w' => e = .returned (.bool false) ∧ w = w' := by
  go_enter Tryz.func145, Tryz.ntmps145
  go_wp2
  all_goals go_ret
  all_goals simp
set_option maxHeartbeats 800000 in
theorem CmpI_any (a b : Int) (w : World) :
    Calls Tryz.prog 122 #[.int .i64 a, .int .i64 b] w fun e w' => e = .returned (.int .i64 (ordI a b)) ∧ w = w' := by
  unfold ordI
  by_cases h1 : a < b
  · rw [if_pos h1]
    go_enter Tryz.func122, Tryz.ntmps122
    go_wp2_with (go_at_call 145; refine (isNaNI_any _ _).mono ?_; rintro e w' ⟨rfl, rfl⟩)
    all_goals go_ret
    all_goals exact ⟨rfl, rfl⟩
  · rw [if_neg h1]
    by_cases h2 : b < a
    · rw [if_pos h2]
      go_enter Tryz.func122, Tryz.ntmps122
      go_wp2_with (go_at_call 145; refine (isNaNI_any _ _).mono ?_; rintro e w' ⟨rfl, rfl⟩)
      all_goals go_ret
      all_goals exact ⟨rfl, rfl⟩
    · rw [if_neg h2]
      go_enter Tryz.func122, Tryz.ntmps122
      go_wp2_with (go_at_call 145; refine (isNaNI_any _ _).mono ?_; rintro e w' ⟨rfl, rfl⟩)
      all_goals go_ret
      all_goals exact ⟨rfl, rfl⟩
set_option maxHeartbeats 400000 in
theorem isNaNU_any (a : Int) (w : World) :
    Calls Tryz.prog 147 #[.int .u64 a] w fun e w' => e = .returned (.bool false) ∧ w = w' := by
  go_enter Tryz.func147, Tryz.ntmps147
  go_wp2
  all_goals go_ret
  all_goals simp
set_option maxHeartbeats 800000 in
theorem CmpU_any (a b : Int) (w : World) :
    Calls Tryz.prog 124 #[.int .u64 a, .int .u64 b] w fun e w' => e = .returned (.int .i64 (ordI a b)) ∧ w = w' := by
  unfold ordI
  by_cases h1 : a < b
  · rw [if_pos h1]
    go_enter Tryz.func124, Tryz.ntmps124
    go_wp2_with (go_at_call 147; refine (isNaNU_any _ _).mono ?_; rintro e w' ⟨rfl, rfl⟩)
    all_goals go_ret
    all_goals exact ⟨rfl, rfl⟩
  · rw [if_neg h1]
    by_cases h2 : b < a
    · rw [if_pos h2]
      go_enter Tryz.func124, Tryz.ntmps124
      go_wp2_with (go_at_call 147; refine (isNaNU_any _ _).mono ?_; rintro e w' ⟨rfl, rfl⟩)
      all_goals go_ret
      all_goals exact ⟨rfl, rfl⟩
    · rw [if_neg h2]
      go_enter Tryz.func124, Tryz.ntmps124
      go_wp2_with (go_at_call 147; refine (isNaNU_any _ _).mono ?_; rintro e w' ⟨rfl, rfl⟩)
      all_goals go_ret
      all_goals exact ⟨rfl, rfl⟩
set_option maxHeartbeats 1000000 in
theorem even_any (x : Nat) (l : List Nat) (a : Option Addr) (cap : Nat) (w : World) (hx : l = toB 1000000000 x) (hc : CellsN .u64 w a l) (hl : l.length ≤ 200) :
    Calls Tryz.prog 125 #[.slice a l.length cap] w fun e w' => e = .returned (.bool (decide (x % 2 = 0))) ∧ Ext w w' := by
  by_cases h0 : x = 0
  · have hl0 : l = [] := by rw [hx, h0, toB_zero]
    subst hl0
    have HR : Hid (decide (x % 2 = 0) = true) := by show _ = _; simp [h0]
    clear hx hc h0
    go_enter Tryz.func125, Tryz.ntmps125
    go_wp2
    go_ret
    exact ⟨ret_bool HR.out.symm, extA⟩
  · have hpos : 0 < l.length := by rw [hx, toB_pos (by omega) h0]; simp
    obtain ⟨b, off, ha, c1⟩ := hc 0 hpos
    subst ha
    obtain ⟨p, hp⟩ : ∃ p, p = l.getD 0 0 := ⟨_, rfl⟩
    have he : p % 2 = x % 2 := by rw [hp, hx]; exact even_toB (by omega) (by decide) h0
    rw [← hp, Nat.add_zero] at c1
    have HR : Hid (decide (x % 2 = 0) = decide (p % 2 = 0)) := by show _ = _; rw [he]
    have ht : ((p : Int).tmod 2 == 0) = decide (p % 2 = 0) := by
      rw [Int.tmod_eq_emod_of_nonneg (by omega), Bool.eq_iff_iff]
      simp only [beq_iff_eq, decide_eq_true_eq]
      omega
    have hn0 : ((l.length : Int) == 0) = false := by rw [beq_eq_false_iff_ne]; omega
    clear hx hc h0 he hp
    generalize decide (p % 2 = 0) = R at HR ht
    go_enter Tryz.func125, Tryz.ntmps125
    go_wp2
    all_goals go_ret
    all_goals exact ⟨ret_bool (by rw [HR.out]; first | rfl | exact ht), extA⟩
end Go.Proofs.YtmndcdjcodfchaaGreatDoor
