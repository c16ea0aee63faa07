/- Steps of the proof: URf3, UOf, USml, UEq, UAwk. No conditions. -/
import Derived.Laws.ResultCell
import Derived.Deep.Slices
import Derived.Test.YtmndcdjcodfchaaGreatDoorZUB1
import Derived.Test.YtmndcdjcodfchaaGreatDoorZUB2
import Derived.Test.YtmndcdjcodfchaaGreatDoorZUB3
import Derived.Test.YtmndcdjcodfchaaGreatDoorZUB4
import Derived.Test.YtmndcdjcodfchaaGreatDoorZUB5
import Derived.Test.YtmndcdjcodfchaaGreatDoorZUB6
import Derived.Test.YtmndcdjcodfchaaGreatDoorZUB7
namespace Go.Proofs.YtmndcdjcodfchaaGreatDoor
open Go.RowKit
set_option maxHeartbeats 8000000 in
set_option maxRecDepth 100000 in
theorem rOver_any {pks : List Pk} {need order : List Int} {pa : Option Addr} {pc : Nat} {na : Option Addr} {nc : Nat} {oa : Option Addr} {oc : Nat} {w : World} (ht : TaskG w pks need pa pc na nc) (ho : CellsI w oa order) (hg : Gives pks need order) :
    Calls Tryz.prog 64 #[taskV pks need pa pc na nc, .slice oa order.length oc] w fun e w' => SliceP (moreS pks need order) w e w' := by
  unfold taskV SliceP
  have HP := Lib.hid ht.pk
  have HO := Lib.hid ho
  have HG := Lib.hid hg
  have HD := Lib.hid ht.nd
  obtain ⟨N, hN⟩ : ∃ N, N = pks.length := ⟨_, rfl⟩
  obtain ⟨K, hK⟩ : ∃ K, K = need.length := ⟨_, rfl⟩
  have hNl := hg.r.pl
  have hK16 := hg.r.k1
  have hml := moreS_len pks need order
  rw [hg.len, ← hN, ← hK]
  rw [← hN] at hNl
  rw [← hK] at hK16 hml
  have HN := Lib.hid hN
  have HK := Lib.hid hK
  have HV : Hid (∀ k, k < K → (moreS pks need order).getD k 0 = dotT (fun p => p.parts.getD k 0) pks order N - need.getD k 0) := fun k hk => by
    rw [moreS_get _ _ _ (by omega)]
    have := dotT_full (fun p => p.parts.getD k 0) hg.len hN
    rw [this]; rfl
  generalize moreS pks need order = full at HV hml ⊢
  have HML := Lib.hid hml
  have HTK : Hid (∀ k, k < K → full.take (k + 1) = full.take k ++ [full.getD k 0]) := fun k hk => by
    rw [List.take_succ_eq_append_getElem (by omega), getD_of (by omega)]
  have HTF : Hid (full.take K = full) := List.take_of_length_le (by omega)
  clear ht hN hK ho hg hml
  have E0 : Ext w (w.alloc (.cells #[.slice pa N pc, .slice na K nc] 30)) := (Ext.refl _).alloc _
  have y1 : (w.alloc (.cells #[.slice pa N pc, .slice na K nc] 30)).cell? ⟨w.heap.size, 0, none⟩ = some (.slice pa N pc) := by go_simp
  have y2 : (w.alloc (.cells #[.slice pa N pc, .slice na K nc] 30)).cell? ⟨w.heap.size, 1, none⟩ = some (.slice na K nc) := by go_simp
  go_enter Tryz.func64, Tryz.ntmps64
  go_wp2
  generalize w.alloc (.cells #[.slice pa N pc, .slice na K nc] 30) = W at E0 y1 y2 ⊢
  have Y1 := Lib.hid y1
  have Y2 := Lib.hid y2
  go_loopw [5, 6] (fun v i wr => ∃ k : Nat, k ≤ K ∧ i = .int .i64 k ∧ Hid (OwnsI wr v (full.take k)) ∧ Hid (∀ b, v.ownBlock = some b → W.heap.size ≤ b) ∧ Ext W wr) (fun _ i _ => K - (intOf i).toNat)
  case atStart => exact ⟨0, Nat.zero_le _, rfl, OwnsI.nil _, fun b hb => (by cases hb), Ext.refl _⟩
  case round =>
    clear y1 y2
    obtain ⟨k, hk, rfl, HOW, HOB, he⟩ := hrel
    have y1 := he.cell Y1.out
    have y2 := he.cell Y2.out
    have z0 := cell_lt y2
    dsimp only at z0
    by_cases hlt : k < K
    · have hlt' : (k : Int) < (K : Int) := by omega
      have EK := E0.trans he
      have hkn : k < need.length := by rw [← HK.out]; exact hlt
      obtain ⟨b2, off2, rfl, c4⟩ := HD.out.ext EK k hkn
      have hnb := HG.out.r.nd _ (getD_mem (d := 0) hkn)
      have hv := HV.out k hlt
      have HB : Hid (∀ j, j ≤ N → 0 ≤ dotT (fun p => p.parts.getD k 0) pks order j ∧ dotT (fun p => p.parts.getD k 0) pks order j ≤ 70368744177664) := fun j hj => amtT_bd HG.out k hkn j (by rw [← HN.out]; exact hj)
      have HSU : Hid (∀ j, j < N → dotT (fun p => p.parts.getD k 0) pks order (j + 1) = dotT (fun p => p.parts.getD k 0) pks order j + order.getD j 0 * (pks.getD j pk0).parts.getD k 0) := fun j hj => dotT_succ (fun p => p.parts.getD k 0) (by rw [← HN.out]; exact hj) (by rw [HG.out.len, ← HN.out]; exact hj)
      have h00 : dotT (fun p => p.parts.getD k 0) pks order 0 = 0 := dotT_zero _ _ _
      obtain ⟨S, hS⟩ : ∃ S : Nat → Int, S = fun j => dotT (fun p => p.parts.getD k 0) pks order j := ⟨_, rfl⟩
      have HSS : Hid (∀ j, dotT (fun p => p.parts.getD k 0) pks order j = S j) := fun j => by rw [hS]
      have hS0 : S 0 = 0 := by rw [← HSS.out]; exact h00
      rw [HSS.out] at hv
      generalize need.getD k 0 = x at c4 hnb hv
      have HVV := Lib.hid hv
      have q1 : IntKind.i64.wrap (-x) = -x := IntWalk.i64_in _ (by omega)
      have zc := cell_lt c4
      dsimp only at zc
      have hx0 : -x = S 0 - x := by rw [hS0]; omega
      have HX0 := Lib.hid hx0
      clear h00 hS hS0 hv hx0
      go_wp2
      go_loopw [7, 8] (fun m t wz => ∃ j : Nat, j ≤ N ∧ t = .int .i64 j ∧ m = .int .i64 (S j - x) ∧ Ext wr wz) (fun _ t _ => N - (intOf t).toNat)
      case atStart => exact ⟨0, Nat.zero_le _, rfl, by rw [HX0.out], Ext.refl _⟩
      case round =>
        obtain ⟨j, hj, rfl, rfl, hx⟩ := hrel
        by_cases hjl : j < N
        · have hjl' : (j : Int) < (N : Int) := by omega
          have EJ := EK.trans hx
          have hi : j < pks.length := by rw [← HN.out]; exact hjl
          obtain ⟨b, off, v, rfl, c1, ⟨ai, ci, rfl, cs, _, _⟩, c2, c3⟩ := (HP.out.ext EJ) j hi
          have hpl := HG.out.r.parts _ (getD_mem (d := pk0) hi)
          obtain ⟨b3, off3, rfl, c5⟩ := cs k (by rw [hpl, ← HK.out]; exact hlt)
          rw [hpl, ← HK.out] at c1
          obtain ⟨b4, off4, rfl, c6⟩ := HO.out.ext EJ j (by rw [HG.out.len]; exact hi)
          have hs := HSU.out j hjl
          have hb1 := HB.out j (by omega)
          have hb2 := HB.out (j + 1) (by omega)
          have hb3 := gives_bd HG.out j hi
          have hb4 := HG.out.r.num _ (getD_mem (d := pk0) hi) _ (getD_mem (d := 0) (i := k) (by rw [hpl, ← HK.out]; exact hlt))
          rw [HSS.out, HSS.out] at hs
          rw [HSS.out] at hb1 hb2
          generalize (pks.getD j pk0).parts.getD k 0 = y at c5 hb4 hs
          generalize order.getD j 0 = o at c6 hb3 hs
          have hmx : 0 ≤ o * y ∧ o * y ≤ 1099511627776 := ⟨Int.mul_nonneg hb3.1 hb4.1, Int.mul_le_mul hb3.2 hb4.2 hb4.1 (by omega)⟩
          have q2 : IntKind.i64.wrap (o * y) = o * y := IntWalk.i64_in _ (by omega)
          have q3 : IntKind.i64.wrap (S j - x + o * y) = S j - x + o * y := IntWalk.i64_in _ (by omega)
          have hnx : S (j + 1) - x = S j - x + o * y := by omega
          have HNX := Lib.hid hnx
          have y1 := hx.cell y1
          have y2 := hx.cell y2
          have za := cell_lt y1
          have zb := cell_lt c1
          have zd := cell_lt c5
          have ze := cell_lt c6
          dsimp only at za zb zd ze
          clear hs hb1 hb2 hb3 hb4 hi hpl cs c2 c3 hnx
          go_wp2
          go_quiet (fail)
          go_wp2
          exact ⟨⟨j + 1, by omega, by go_num, by rw [HNX.out], extA⟩, by simp [intOf]; omega⟩
        · have hje : j = N := by omega
          subst hje
          have hjl' : ¬ (j : Int) < (j : Int) := by omega
          have y1 := hx.cell y1
          have z9 := cell_lt y1
          dsimp only at z9
          have HOW2 := Lib.hid (HOW.out.ext hx)
          have EW5 := he.trans hx
          obtain ⟨z, hz⟩ : ∃ z, z = S j - x := ⟨_, rfl⟩
          have HZ : Hid (full.take (k + 1) = full.take k ++ [z]) := by show _ = _; rw [HTK.out k hlt, HVV.out, hz]
          rw [← hz]
          have HL5 : Hid ((full.take k).length ≤ 16) := by show _ ≤ _; rw [List.length_take]; omega
          clear hz hx HOW
          obtain ⟨i0, hi, hi0, hi1, hi2⟩ := info_parts infoInt
          go_wp2_with (at_builtin; refine wpList_append1 _ rfl _ _ 23 rfl 3 i0 (.int .i64 0) 1 8 Tryz.underlying23 hi hi0 hi1 hi2 rfl (by decide) u5 (full.take k).length (vals (full.take k)) rfl (HOW2.out.ext ((Ext.refl _).alloc _)) ⟨wr.heap.size, 0, none⟩ 1 1 (by decide) [.int .i64 z] rfl rfl (cells_one _ _ _) (by intro u hu; simp at hu; subst hu; rfl) (by have := HL5.out; unfold maxLen; omega) (by have := HL5.out; omega) ?_)
          intro v' w9 hown9 hend9
          have O9 : Hid (OwnsI w9 v' (full.take (k + 1))) := by
            show OwnsI _ _ _
            rw [HZ.out]
            exact ownsI_succ (by rw [List.length_take]; exact hown9)
          have OB9 : Hid (∀ b, v'.ownBlock = some b → W.heap.size ≤ b) := hend9.ge (n := W.heap.size) (by have := EW5.size; simp; omega) HOB.out
          have B9 : Ext W w9 := (EW5.trans ((Ext.refl _).alloc _)).trans' (hend9.below (n := W.heap.size) (by have := EW5.size; simp; omega) HOB.out) (Nat.le_refl _)
          clear hown9 hend9 hi hi0 hi1 hi2 i0
          go_wp2
          exact ⟨⟨k + 1, by omega, by go_num, O9.out, OB9.out, B9⟩, by simp [intOf]; omega⟩
    · have hke : k = K := by omega
      subst hke
      have hlt' : ¬ (k : Int) < (k : Int) := by omega
      obtain ⟨a, cp, hv, g1, g2, g3⟩ := HOW.out.full
      rw [HTF.out] at hv g1 g2
      subst hv
      have HGG := Lib.hid (show _ ∧ _ ∧ _ from ⟨g1, g2, g3⟩)
      clear g1 g2 g3 HOW HOB
      go_wp2
      go_ret
      exact ⟨a, cp, rfl, HGG.out.1, HGG.out.2.1, HGG.out.2.2, E0.trans he⟩
set_option maxHeartbeats 4000000 in
theorem rMeets_any {pks : List Pk} {need order : List Int} {pa : Option Addr} {pc : Nat} {na : Option Addr} {nc : Nat} {oa : Option Addr} {oc : Nat} {w : World} (ht : TaskG w pks need pa pc na nc) (ho : CellsI w oa order) (hg : Gives pks need order) :
    Calls Tryz.prog 68 #[taskV pks need pa pc na nc, .slice oa order.length oc] w fun e w' => e = .returned (.bool (meetS need pks order)) ∧ Ext w w' := by
  have H1 := Lib.hid (fun w' (he : Ext w w') => rOver_any (oc := oc) (ht.ext he) (ho.ext he) hg)
  have hK16 := hg.r.k1
  have hml := moreS_len pks need order
  have hmm : meetS need pks order = !(moreS pks need order).any lackB := by rw [more_meet]; simp
  rw [hmm]
  unfold SliceP at H1
  unfold taskV at H1 ⊢
  generalize moreS pks need order = l at H1 hml ⊢
  obtain ⟨r, hr⟩ : ∃ r, (!l.any lackB) = r := ⟨_, rfl⟩
  rw [hr]
  have HHIT : Hid (∀ k, k < l.length → lackB (l.getD k 0) = true → r = false) := fun k hk h => by
    rw [← hr, List.any_eq_true.2 ⟨_, getD_mem (d := 0) hk, h⟩]; rfl
  have HEND : Hid ((∀ k, k < l.length → lackB (l.getD k 0) = false) → r = true) := fun h => by
    rw [← hr]
    have : l.any lackB = false := by
      rw [List.any_eq_false]
      intro x hx
      obtain ⟨i, hi, e⟩ := List.mem_iff_getElem.1 hx
      have := h i hi
      rw [getD_of hi, e] at this
      rw [this]; simp
    rw [this]; rfl
  obtain ⟨n, hn⟩ : ∃ n, n = l.length := ⟨_, rfl⟩
  have hn16 : n ≤ 16 := by omega
  rw [← hn] at H1 HHIT HEND
  have HN := Lib.hid hn
  clear ht ho hg hml hmm hr hn hK16
  have E0 : Ext w (w.alloc (.cells #[.slice pa pks.length pc, .slice na need.length nc] 30)) := (Ext.refl _).alloc _
  go_enter Tryz.func68, Tryz.ntmps68
  go_wp2_with fail
  refine (H1.out _ E0).mono ?_
  rintro e w1 ⟨a, cap, rfl, hc, _, _, hE⟩
  have E1 := E0.trans hE
  have HC := Lib.hid hc
  clear hc hE E0 H1
  go_wp2
  go_loopw [6] (fun i wr => ∃ k : Nat, k ≤ n ∧ i = .int .i64 k ∧ Hid (∀ j, j < k → lackB (l.getD j 0) = false) ∧ Ext w1 wr) (fun i _ => n - (intOf i).toNat)
  case atStart => exact ⟨0, Nat.zero_le _, rfl, fun j hj => absurd hj (Nat.not_lt_zero j), Ext.refl _⟩
  case round =>
    obtain ⟨k, hk, rfl, hz, he⟩ := hrel
    by_cases hlt : k < n
    · have hlt' : (k : Int) < (n : Int) := by omega
      obtain ⟨b1, o1, rfl, c1⟩ := HC.out.ext he k (by rw [← HN.out]; exact hlt)
      have hb := HHIT.out k hlt
      have hnx : lackB (l.getD k 0) = false → ∀ j, j < k + 1 → lackB (l.getD j 0) = false := fun h j hj => by
        rcases Nat.lt_or_eq_of_le (Nat.le_of_lt_succ hj) with h2 | rfl
        · exact hz.out j h2
        · exact h
      generalize l.getD k 0 = x at c1 hb hnx
      have z1 := cell_lt c1
      dsimp only at z1
      clear hz
      by_cases hx : x < 0
      · obtain rfl := hb (by unfold lackB; simp [hx])
        clear hb hnx
        go_wp2
        go_ret
        exact ⟨rfl, E1.trans he⟩
      · have HG := Lib.hid (hnx (by unfold lackB; simp; omega))
        clear hb hnx
        go_wp2
        exact ⟨⟨k + 1, by omega, by go_num, HG.out, he⟩, by simp [intOf]; omega⟩
    · have hke : k = n := by omega
      subst hke
      have hlt' : ¬ (k : Int) < (k : Int) := by omega
      obtain rfl := HEND.out hz.out
      go_wp2
      go_ret
      exact ⟨rfl, E1.trans he⟩
set_option maxHeartbeats 2000000 in
theorem rCost_any {pks : List Pk} {need order : List Int} {pa : Option Addr} {pc : Nat} {na : Option Addr} {nc : Nat} {oa : Option Addr} {oc : Nat} {w : World} (ht : TaskG w pks need pa pc na nc) (ho : CellsI w oa order) (hol : order.length ≤ maxLen) :
    Calls Tryz.prog 20 #[taskV pks need pa pc na nc, .slice oa order.length oc] w fun e w' => e = .returned (.tuple #[.int .i64 (costR pks need order), .int .i64 (givenS pks need order)]) ∧ Ext w w' := by
  have H1 := Lib.hid (fun w' (he : Ext w w') => rGiven_any (oc := oc) (ht.ext he) (ho.ext he) hol)
  have H2 := Lib.hid (fun w' (he : Ext w w') hg => rPrice_any (oc := oc) (ht.ext he) (ho.ext he) hg)
  obtain ⟨r, hr⟩ : ∃ r, givenS pks need order = r := ⟨_, rfl⟩
  obtain ⟨c, hc⟩ : ∃ c, costR pks need order = c := ⟨_, rfl⟩
  rw [hr] at H1
  rw [hr, hc]
  have HR := Lib.hid hr
  have HCC := Lib.hid hc
  unfold taskV at H1 H2 ⊢
  clear ht ho hol hr hc
  have E0 : Ext w (w.alloc (.cells #[.slice pa pks.length pc, .slice na need.length nc] 30)) := (Ext.refl _).alloc _
  have y1 : (w.alloc (.cells #[.slice pa pks.length pc, .slice na need.length nc] 30)).cell? ⟨w.heap.size, 0, none⟩ = some (.slice pa pks.length pc) := by go_simp
  have y2 : (w.alloc (.cells #[.slice pa pks.length pc, .slice na need.length nc] 30)).cell? ⟨w.heap.size, 1, none⟩ = some (.slice na need.length nc) := by go_simp
  go_enter Tryz.func20, Tryz.ntmps20
  go_wp2_with fail
  refine (H1.out _ E0).mono ?_
  rintro e w1 ⟨rfl, hE⟩
  have E1 := E0.trans hE
  have a1 := hE.cell y1
  have a2 := hE.cell y2
  have za := cell_lt a1
  dsimp only at za
  clear hE E0 y1 y2 H1
  by_cases h0 : r = 0
  · subst h0
    have HC2 : Hid (costS pks order = c) := by show _ = _; rw [← HCC.out]; exact (costR_ok HR.out).symm
    go_wp2_with fail
    refine (H2.out _ E1 (gives_of HR.out)).mono ?_
    rintro e w2 ⟨rfl, hE⟩
    rw [HC2.out]
    go_wp2
    go_ret2
    exact ⟨rfl, E1.trans hE⟩
  · have k1 : (r == 0) = false := by simp [h0]
    obtain rfl : c = 0 := by rw [← HCC.out]; exact costR_bad (by rw [HR.out]; exact h0)
    go_wp2
    go_ret2
    exact ⟨rfl, E1⟩
set_option maxHeartbeats 2000000 in
theorem rVerify_any {pks : List Pk} {need order : List Int} {pa : Option Addr} {pc : Nat} {na : Option Addr} {nc : Nat} {oa : Option Addr} {oc : Nat} {w : World} (ht : TaskG w pks need pa pc na nc) (ho : CellsI w oa order) (hol : order.length ≤ maxLen) :
    Calls Tryz.prog 26 #[taskV pks need pa pc na nc, .slice oa order.length oc] w fun e w' => e = .returned (.int .i64 (verifyS pks need order)) ∧ Ext w w' := by
  have H1 := Lib.hid (fun w' (he : Ext w w') => rGiven_any (oc := oc) (ht.ext he) (ho.ext he) hol)
  have H2 := Lib.hid (fun w' (he : Ext w w') hg => rMeets_any (oc := oc) (ht.ext he) (ho.ext he) hg)
  obtain ⟨r, hr⟩ : ∃ r, givenS pks need order = r := ⟨_, rfl⟩
  obtain ⟨c, hc⟩ : ∃ c, verifyS pks need order = c := ⟨_, rfl⟩
  rw [hr] at H1
  rw [hc]
  have HR := Lib.hid hr
  have HCC := Lib.hid hc
  unfold taskV at H1 H2 ⊢
  clear ht ho hol hr hc
  have E0 : Ext w (w.alloc (.cells #[.slice pa pks.length pc, .slice na need.length nc] 30)) := (Ext.refl _).alloc _
  have y1 : (w.alloc (.cells #[.slice pa pks.length pc, .slice na need.length nc] 30)).cell? ⟨w.heap.size, 0, none⟩ = some (.slice pa pks.length pc) := by go_simp
  have y2 : (w.alloc (.cells #[.slice pa pks.length pc, .slice na need.length nc] 30)).cell? ⟨w.heap.size, 1, none⟩ = some (.slice na need.length nc) := by go_simp
  go_enter Tryz.func26, Tryz.ntmps26
  go_wp2_with fail
  refine (H1.out _ E0).mono ?_
  rintro e w1 ⟨rfl, hE⟩
  have E1 := E0.trans hE
  have a1 := hE.cell y1
  have a2 := hE.cell y2
  have za := cell_lt a1
  dsimp only at za
  clear hE E0 y1 y2 H1
  by_cases h0 : r = 0
  · subst h0
    have hok : meetS need pks order = true → c = 0 := fun h => by rw [← HCC.out]; exact (verify_ok HR.out (by rw [more_meet, h]; rfl)).1
    have hno : meetS need pks order = false → c = 15 := fun h => by rw [← HCC.out]; exact (verify_lack HR.out (by rw [more_meet, h]; rfl)).1
    have H3 := Lib.hid (H2.out _ E1 (gives_of HR.out))
    generalize meetS need pks order = m at hok hno H3
    have HOK := Lib.hid hok
    have HNO := Lib.hid hno
    clear H2 hok hno
    go_wp2_with fail
    refine H3.out.mono ?_
    rintro e w2 ⟨rfl, hE⟩
    cases m
    · obtain rfl := HNO.out rfl
      go_wp2
      go_ret
      exact ⟨rfl, E1.trans hE⟩
    · obtain rfl := HOK.out rfl
      go_wp2
      go_ret
      exact ⟨rfl, E1.trans hE⟩
  · have k1 : (r == 0) = false := by simp [h0]
    obtain rfl : c = r := by rw [← HCC.out, ← HR.out]; exact (verify_bad (by rw [HR.out]; exact h0)).1
    go_wp2
    go_ret
    exact ⟨rfl, E1⟩
set_option maxHeartbeats 2000000 in
theorem rRest_any {pks : List Pk} {need order : List Int} {pa : Option Addr} {pc : Nat} {na : Option Addr} {nc : Nat} {oa : Option Addr} {oc : Nat} {w : World} (ht : TaskG w pks need pa pc na nc) (ho : CellsI w oa order) (hol : order.length ≤ maxLen) :
    Calls Tryz.prog 22 #[taskV pks need pa pc na nc, .slice oa order.length oc] w fun e w' => SliceE (restL pks need order) (verifyS pks need order) w e w' := by
  have H1 := Lib.hid (fun w' (he : Ext w w') => rVerify_any (oc := oc) (ht.ext he) (ho.ext he) hol)
  have H2 := Lib.hid (fun w' (he : Ext w w') hg => rOver_any (oc := oc) (ht.ext he) (ho.ext he) hg)
  obtain ⟨c, hc⟩ : ∃ c, verifyS pks need order = c := ⟨_, rfl⟩
  obtain ⟨l, hl⟩ : ∃ l, restL pks need order = l := ⟨_, rfl⟩
  rw [hc] at H1
  rw [hl, hc]
  have HG : Hid (c = 0 → Gives pks need order ∧ l = moreS pks need order) := fun h => by
    have h1 : verifyS pks need order = 0 := hc.trans h
    refine ⟨gives_of ?_, by rw [← hl]; unfold restL; rw [if_pos h1]⟩
    unfold verifyS at h1
    by_cases h2 : givenS pks need order = 0
    · exact h2
    · rw [if_pos h2] at h1; exact absurd h1 h2
  have HB : Hid (c ≠ 0 → l = []) := fun h => by rw [← hl]; unfold restL; rw [if_neg (by rw [hc]; exact h)]
  unfold SliceP at H2
  unfold taskV at H1 H2 ⊢
  unfold SliceE
  clear ht ho hol hc hl
  have E0 : Ext w (w.alloc (.cells #[.slice pa pks.length pc, .slice na need.length nc] 30)) := (Ext.refl _).alloc _
  have y1 : (w.alloc (.cells #[.slice pa pks.length pc, .slice na need.length nc] 30)).cell? ⟨w.heap.size, 0, none⟩ = some (.slice pa pks.length pc) := by go_simp
  have y2 : (w.alloc (.cells #[.slice pa pks.length pc, .slice na need.length nc] 30)).cell? ⟨w.heap.size, 1, none⟩ = some (.slice na need.length nc) := by go_simp
  go_enter Tryz.func22, Tryz.ntmps22
  go_wp2_with fail
  refine (H1.out _ E0).mono ?_
  rintro e w1 ⟨rfl, hE⟩
  have E1 := E0.trans hE
  have a1 := hE.cell y1
  have a2 := hE.cell y2
  have za := cell_lt a1
  dsimp only at za
  clear hE E0 y1 y2 H1
  by_cases h0 : c = 0
  · subst h0
    obtain ⟨hg, hl⟩ := HG.out rfl
    have H3 := Lib.hid (H2.out _ E1 hg)
    rw [← hl] at H3
    clear H2 hg hl
    go_wp2_with fail
    refine H3.out.mono ?_
    rintro e w2 ⟨a, cap, rfl, g1, g2, g3, hE⟩
    have HGG := Lib.hid (show _ ∧ _ ∧ _ from ⟨g1, g2, g3⟩)
    clear g1 g2 g3
    go_wp2
    go_ret2
    exact ⟨a, cap, rfl, HGG.out.1, HGG.out.2.1, HGG.out.2.2, E1.trans hE⟩
  · have k1 : (c == 0) = false := by simp [h0]
    obtain rfl := HB.out h0
    go_wp2
    go_ret2
    exact ⟨none, 0, rfl, fun i hi => by simp at hi, Nat.le_refl _, Nat.zero_le _, E1⟩
end Go.Proofs.YtmndcdjcodfchaaGreatDoor
namespace Go.Proofs.YtmndcdjcodfchaaGreatDoor
open Go.RowKit
theorem results_cellT {fn : Func} {p : Tmp} {ty : TypeId} (h : fn.results = #[.cell p ty]) (tmps : Array Value) (P : Program) (w : World) :
    (results fn tmps).run P w = ((asAddr (tmps.getD p undef)).run P w).andThen fun a w₁ => (loadVar ty a).run P w₁ := by
  simp only [results, h]
  simp [Sem.run_bind, Result.andThen]
theorem infoPkR : (Tryz.prog.info? 79).map (fun i => (i.zero, i.size, i.bytes)) = some (some (.agg #[.slice none 0 0, .int .i64 0, .int .i64 0]), 3, 40) := by kernel_rfl
def flatG (f : Nat → Value) (pks : List Pk) : Nat → List Value
  | 0 => []
  | k + 1 => flatG f pks k ++ [f k, .int .i64 (pks.getD k pk0).price, .int .i64 (pks.getD k pk0).most]
theorem flatG_len (f : Nat → Value) (pks : List Pk) : ∀ k, (flatG f pks k).length = k * 3
  | 0 => rfl
  | k + 1 => by unfold flatG; rw [List.length_append, flatG_len f pks k]; simp only [List.length_cons, List.length_nil]; omega
theorem flatG_get (f : Nat → Value) (pks : List Pk) : ∀ k i, i < k → (flatG f pks k)[i * 3]? = some (f i) ∧ (flatG f pks k)[i * 3 + 1]? = some (.int .i64 (pks.getD i pk0).price) ∧ (flatG f pks k)[i * 3 + 2]? = some (.int .i64 (pks.getD i pk0).most) := by
  intro k
  induction k with
  | zero => intro i hi; exact absurd hi (Nat.not_lt_zero i)
  | succ k ih =>
    intro i hi
    have hl := flatG_len f pks k
    unfold flatG
    rcases Nat.lt_or_eq_of_le (Nat.le_of_lt_succ hi) with h | rfl
    · obtain ⟨h1, h2, h3⟩ := ih i h
      rw [List.getElem?_append_left (by omega), List.getElem?_append_left (by omega), List.getElem?_append_left (by omega)]
      exact ⟨h1, h2, h3⟩
    · rw [List.getElem?_append_right (by omega), List.getElem?_append_right (by omega), List.getElem?_append_right (by omega), hl, Nat.sub_self, show i * 3 + 1 - i * 3 = 1 by omega, show i * 3 + 2 - i * 3 = 2 by omega]
      exact ⟨rfl, rfl, rfl⟩
def OwnsG (w : World) (v : Value) (f : Nat → Value) (pks : List Pk) (k : Nat) : Prop := w.ownsRow 0 79 3 v k (flatG f pks k)
theorem rowFull {A : World} {e : TypeId} {s : Nat} {v : Value} {n : Nat} {xs : List Value} (h : A.ownsRow 0 e s v n xs) : ∃ a cap, v = .slice a n cap ∧ n ≤ cap ∧ cap ≤ maxLen := by
  rcases h.2 with ⟨hv, hn⟩ | ⟨g, cap, cur, hv, hg, hh, hnc, hm, hcs, ht⟩
  · subst hn
    exact ⟨none, 0, hv, Nat.le_refl _, Nat.zero_le _⟩
  · exact ⟨_, cap, hv, hnc, hm⟩
theorem OwnsG.task {w : World} {v : Value} {f : Nat → Value} {pks : List Pk} (h : OwnsG w v f pks pks.length) (hf : ∀ i, i < pks.length → SliceI w (f i) (pks.getD i pk0).parts) {need : List Int} {na : Option Addr} {nc : Nat} (hn : CellsI w na need) (hn1 : need.length ≤ nc) (hn2 : nc ≤ maxLen) :
    ∃ pa pc, v = .slice pa pks.length pc ∧ TaskG w pks need pa pc na nc := by
  obtain ⟨a, cap, hv, h1, h2⟩ := rowFull h
  obtain ⟨a', cap', hv', _, h3⟩ := rowReads h
  rw [hv] at hv'
  injection hv' with e1 e2 e3
  subst e1
  refine ⟨a, cap, hv, fun i hi => ?_, hn, h1, h2, hn1, hn2⟩
  obtain ⟨g1, g2, g3⟩ := flatG_get f pks pks.length i hi
  obtain ⟨b, hb, _, c1, _⟩ := h3 _ _ g1
  obtain ⟨b', hb', _, c2, _⟩ := h3 _ _ g2
  obtain ⟨b'', hb'', _, c3, _⟩ := h3 _ _ g3
  rw [hb] at hb' hb''
  cases hb'; cases hb''
  exact ⟨b, 0, f i, hb, by rw [Nat.zero_add]; exact c1, hf i hi, by rw [Nat.zero_add]; exact c2, by rw [Nat.zero_add]; exact c3⟩
theorem news3 {w : World} {b : Nat} {x y z : Value} (h0 : w.cell? ⟨b, 0, none⟩ = some x) (h1 : w.cell? ⟨b, 1, none⟩ = some y) (h2 : w.cell? ⟨b, 2, none⟩ = some z) : ∀ j u, ([x, y, z] : List Value)[j]? = some u → w.cell? ((⟨b, 0, none⟩ : Addr).add j) = some u := by
  intro j u h
  rw [Addr.add_lit, Nat.zero_add]
  match j, h with
  | 0, h => simp at h; subst h; exact h0
  | 1, h => simp at h; subst h; exact h1
  | 2, h => simp at h; subst h; exact h2
def TaskP (pks : List Pk) (need : List Int) (w : World) (e : Ending) (w' : World) : Prop := ∃ pa pc na nc, e = .returned (taskV pks need pa pc na nc) ∧ TaskG w' pks need pa pc na nc ∧ Ext w w'
set_option maxHeartbeats 8000000 in
set_option maxRecDepth 100000 in
theorem Of_any {pks : List Pk} {need : List Int} {pa : Option Addr} {pc : Nat} {na : Option Addr} {nc : Nat} {w : World} (ht : TaskG w pks need pa pc na nc) (hl : pks.length ≤ 100) :
    Calls Tryz.prog 11 #[taskV pks need pa pc na nc] w fun e w' => TaskP pks need w e w' := by
  obtain ⟨f, hf⟩ : ∃ f : Nat → Value, ∀ i, i < pks.length → ∃ b off, pa = some ⟨b, off, none⟩ ∧ w.cell? ⟨b, off + i * 3, none⟩ = some (f i) ∧ SliceI w (f i) (pks.getD i pk0).parts ∧ w.cell? ⟨b, off + i * 3 + 1, none⟩ = some (.int .i64 (pks.getD i pk0).price) ∧ w.cell? ⟨b, off + i * 3 + 2, none⟩ = some (.int .i64 (pks.getD i pk0).most) := by
    have key : ∀ i, i < pks.length → ∃ v : Value, ∃ b off, pa = some ⟨b, off, none⟩ ∧ w.cell? ⟨b, off + i * 3, none⟩ = some v ∧ SliceI w v (pks.getD i pk0).parts ∧ w.cell? ⟨b, off + i * 3 + 1, none⟩ = some (.int .i64 (pks.getD i pk0).price) ∧ w.cell? ⟨b, off + i * 3 + 2, none⟩ = some (.int .i64 (pks.getD i pk0).most) := fun i hi => by
      obtain ⟨b, off, v, h⟩ := ht.pk i hi
      exact ⟨v, b, off, h⟩
    exact Go.Deep.choose_lt (α := Value) key
  have HF := Lib.hid hf
  have HT := Lib.hid (show _ ∧ _ ∧ _ from ⟨ht.nd, ht.n1, ht.n2⟩)
  unfold taskV
  obtain ⟨N, hN⟩ : ∃ N, N = pks.length := ⟨_, rfl⟩
  obtain ⟨K, hK⟩ : ∃ K, K = need.length := ⟨_, rfl⟩
  rw [← hN] at hl
  rw [← hN, ← hK]
  have HN := Lib.hid hN
  have HK := Lib.hid hK
  clear hf ht hN hK
  go_enter Tryz.func11, Tryz.ntmps11
  go_wp2
  have E0 : Ext w (((w.alloc (.cells #[.slice pa N pc, .slice na K nc] 25)).alloc (.cells #[.slice none 0 0, .slice none 0 0] 30)).alloc (.cells #[.slice none 0 0, .slice na K nc] 30)) := extA
  have y1 : (((w.alloc (.cells #[.slice pa N pc, .slice na K nc] 25)).alloc (.cells #[.slice none 0 0, .slice none 0 0] 30)).alloc (.cells #[.slice none 0 0, .slice na K nc] 30)).cell? ⟨w.heap.size, 0, none⟩ = some (.slice pa N pc) := by go_simp
  have r0 : (((w.alloc (.cells #[.slice pa N pc, .slice na K nc] 25)).alloc (.cells #[.slice none 0 0, .slice none 0 0] 30)).alloc (.cells #[.slice none 0 0, .slice na K nc] 30)).cell? ⟨w.heap.size + 1, 0, none⟩ = some (.slice none 0 0) := by go_simp
  have r1 : (((w.alloc (.cells #[.slice pa N pc, .slice na K nc] 25)).alloc (.cells #[.slice none 0 0, .slice none 0 0] 30)).alloc (.cells #[.slice none 0 0, .slice na K nc] 30)).cell? ⟨w.heap.size + 1, 1, none⟩ = some (.slice none 0 0) := by go_simp
  have q0 : (((w.alloc (.cells #[.slice pa N pc, .slice na K nc] 25)).alloc (.cells #[.slice none 0 0, .slice none 0 0] 30)).alloc (.cells #[.slice none 0 0, .slice na K nc] 30)).cell? ⟨w.heap.size + 1 + 1, 0, none⟩ = some (.slice none 0 0) := by go_simp
  have q1 : (((w.alloc (.cells #[.slice pa N pc, .slice na K nc] 25)).alloc (.cells #[.slice none 0 0, .slice none 0 0] 30)).alloc (.cells #[.slice none 0 0, .slice na K nc] 30)).cell? ⟨w.heap.size + 1 + 1, 1, none⟩ = some (.slice na K nc) := by go_simp
  have fr0 : (((w.alloc (.cells #[.slice pa N pc, .slice na K nc] 25)).alloc (.cells #[.slice none 0 0, .slice none 0 0] 30)).alloc (.cells #[.slice none 0 0, .slice na K nc] 30)).frozen? ⟨w.heap.size + 1, 0, none⟩ = false := by go_simp
  have fr1 : (((w.alloc (.cells #[.slice pa N pc, .slice na K nc] 25)).alloc (.cells #[.slice none 0 0, .slice none 0 0] 30)).alloc (.cells #[.slice none 0 0, .slice na K nc] 30)).frozen? ⟨w.heap.size + 1, 1, none⟩ = false := by go_simp
  have fq0 : (((w.alloc (.cells #[.slice pa N pc, .slice na K nc] 25)).alloc (.cells #[.slice none 0 0, .slice none 0 0] 30)).alloc (.cells #[.slice none 0 0, .slice na K nc] 30)).frozen? ⟨w.heap.size + 1 + 1, 0, none⟩ = false := by go_simp
  have hsz : w.heap.size + 1 + 1 < (((w.alloc (.cells #[.slice pa N pc, .slice na K nc] 25)).alloc (.cells #[.slice none 0 0, .slice none 0 0] 30)).alloc (.cells #[.slice none 0 0, .slice na K nc] 30)).heap.size := cell_lt q0
  obtain ⟨rb, hrb⟩ : ∃ rb, rb = w.heap.size + 1 := ⟨_, rfl⟩
  obtain ⟨ob, hob⟩ : ∃ ob, ob = w.heap.size + 1 + 1 := ⟨_, rfl⟩
  rw [← hob] at q0 q1 fq0 hsz ⊢
  rw [← hrb] at r0 r1 fr0 fr1 ⊢
  have hro : w.heap.size < rb ∧ rb < ob := ⟨by omega, by omega⟩
  clear hrb hob
  generalize (((w.alloc (.cells #[.slice pa N pc, .slice na K nc] 25)).alloc (.cells #[.slice none 0 0, .slice none 0 0] 30)).alloc (.cells #[.slice none 0 0, .slice na K nc] 30)) = W at E0 y1 r0 r1 q0 q1 fr0 fr1 fq0 hsz ⊢
  obtain ⟨m0, hm0⟩ : ∃ m0, m0 = W.heap.size := ⟨_, rfl⟩
  rw [← hm0] at hsz
  go_loopw [12] (fun i wr => ∃ k : Nat, k ≤ N ∧ i = .int .i64 k ∧ Hid (∃ v, wr.cell? ⟨ob, 0, none⟩ = some v ∧ wr.cell? ⟨ob, 1, none⟩ = some (.slice na K nc) ∧ wr.frozen? ⟨ob, 0, none⟩ = false ∧ OwnsG wr v f pks k ∧ (∀ b, v.ownBlock = some b → m0 ≤ b)) ∧ Hid (wr.cell? ⟨rb, 0, none⟩ = some (.slice none 0 0) ∧ wr.cell? ⟨rb, 1, none⟩ = some (.slice none 0 0) ∧ wr.frozen? ⟨rb, 0, none⟩ = false ∧ wr.frozen? ⟨rb, 1, none⟩ = false ∧ wr.cell? ⟨w.heap.size, 0, none⟩ = some (.slice pa N pc)) ∧ m0 ≤ wr.heap.size ∧ Ext w wr) (fun i _ => N - (intOf i).toNat)
  case atStart => exact ⟨0, Nat.zero_le _, rfl, ⟨_, q0, q1, fq0, World.ownsRow_nil W 0 _ _, fun b hb => (by cases hb)⟩, ⟨r0, r1, fr0, fr1, y1⟩, by omega, E0⟩
  case round =>
    clear y1 r0 r1 q0 q1 fr0 fr1 fq0 E0 hm0
    obtain ⟨k, hk, rfl, HV, HRB, hm, he⟩ := hrel
    obtain ⟨v, q0, q1, fq0, hown, hob⟩ := HV.out
    obtain ⟨r0, r1, fr0, fr1, y1⟩ := HRB.out
    have zq := cell_lt q0
    have zr := cell_lt r0
    have zy := cell_lt y1
    dsimp only at zq zr zy
    by_cases hlt : k < N
    · have hlt' : (k : Int) < (N : Int) := by omega
      obtain ⟨b, off, rfl, c1, cs, c2, c3⟩ := HF.out k (by rw [← HN.out]; exact hlt)
      have HFL : Hid (flatG f pks (k + 1) = flatG f pks k ++ [f k, .int .i64 (pks.getD k pk0).price, .int .i64 (pks.getD k pk0).most]) := rfl
      have c1 := he.cell c1
      have c2 := he.cell c2
      have c3 := he.cell c3
      obtain ⟨ai, ci, hfk, cs, _, _⟩ := cs
      rw [hfk] at c1 HFL
      generalize (pks.getD k pk0).parts.length = L at c1 HFL
      generalize (pks.getD k pk0).price = p at c2 HFL
      generalize (pks.getD k pk0).most = m at c3 HFL
      have zb := cell_lt c1
      dsimp only at zb
      have hmi : (k : Int) + 1 ≤ 100 := by omega
      have E3 : Ext wr ((wr.alloc (.cells #[.slice ai L ci, .int .i64 p, .int .i64 m] 62)).alloc (.cells #[.slice ai L ci, .int .i64 p, .int .i64 m] 79)) := extA
      have n0 : ((wr.alloc (.cells #[.slice ai L ci, .int .i64 p, .int .i64 m] 62)).alloc (.cells #[.slice ai L ci, .int .i64 p, .int .i64 m] 79)).cell? ⟨wr.heap.size + 1, 0, none⟩ = some (.slice ai L ci) := by go_simp
      have n1 : ((wr.alloc (.cells #[.slice ai L ci, .int .i64 p, .int .i64 m] 62)).alloc (.cells #[.slice ai L ci, .int .i64 p, .int .i64 m] 79)).cell? ⟨wr.heap.size + 1, 1, none⟩ = some (.int .i64 p) := by go_simp
      have n2 : ((wr.alloc (.cells #[.slice ai L ci, .int .i64 p, .int .i64 m] 62)).alloc (.cells #[.slice ai L ci, .int .i64 p, .int .i64 m] 79)).cell? ⟨wr.heap.size + 1, 2, none⟩ = some (.int .i64 m) := by go_simp
      obtain ⟨i0, hi, hi0, hi1, hi2⟩ := info_parts infoPkR
      have HOW := Lib.hid hown
      have HOB := Lib.hid hob
      have HNW := Lib.hid (news3 n0 n1 n2)
      have HE3 := Lib.hid E3
      clear n0 n1 n2 cs hfk hown hob E3
      go_wp2_with (at_builtin; refine wpList_append1 _ rfl _ _ 28 rfl 79 i0 (.agg #[.slice none 0 0, .int .i64 0, .int .i64 0]) 3 40 Tryz.underlying28 hi hi0 hi1 hi2 rfl (by decide) v k (flatG f pks k) rfl (rowExt HOW.out HE3.out) ⟨wr.heap.size + 1, 0, none⟩ 1 1 (by decide) [.slice ai L ci, .int .i64 p, .int .i64 m] rfl rfl HNW.out (by intro u hu; simp at hu; rcases hu with rfl | rfl | rfl <;> rfl) (by unfold maxLen; omega) (by omega) ?_)
      intro v' w9 hown9 hend9
      obtain ⟨va, vc, hvv, _, _⟩ := rowFull hown9
      subst hvv
      obtain ⟨v', hv'⟩ : ∃ v', v' = Value.slice va (k + 1) vc := ⟨_, rfl⟩
      rw [← hv'] at hown9 hend9
      have hv3 : m0 ≤ ((wr.alloc (.cells #[.slice ai L ci, .int .i64 p, .int .i64 m] 62)).alloc (.cells #[.slice ai L ci, .int .i64 p, .int .i64 m] 79)).heap.size := Nat.le_trans hm HE3.out.size
      have B : Below m0 wr w9 := Below.trans (HE3.out.mono hm) (hend9.below (n := m0) hv3 HOB.out)
      have OB9 : Hid (∀ b, v'.ownBlock = some b → m0 ≤ b) := hend9.ge (n := m0) hv3 HOB.out
      have O9 : Hid (OwnsG w9 v' f pks (k + 1)) := by
        show World.ownsRow _ _ _ _ _ _ _
        rw [HFL.out]
        exact hown9
      have q0 := cellB B (p := ⟨ob, 0, none⟩) hsz q0
      have q1 := cellB B (p := ⟨ob, 1, none⟩) hsz q1
      have r0 := cellB B (p := ⟨rb, 0, none⟩) (by dsimp only; omega) r0
      have r1 := cellB B (p := ⟨rb, 1, none⟩) (by dsimp only; omega) r1
      have y1 := cellB B (p := ⟨w.heap.size, 0, none⟩) (by dsimp only; omega) y1
      have fq0 := (Below.frozen (p := ⟨ob, 0, none⟩) B hsz).trans fq0
      have fr0 := (Below.frozen (p := ⟨rb, 0, none⟩) B (by dsimp only; omega)).trans fr0
      have fr1 := (Below.frozen (p := ⟨rb, 1, none⟩) B (by dsimp only; omega)).trans fr1
      have hm9 : m0 ≤ w9.heap.size := by have := B.size; omega
      have E9 : Ext w w9 := Below.trans he (B.mono (by omega))
      have zq := cell_lt q0
      dsimp only at zq
      have O10 : Hid (OwnsG (w9.setCell ⟨ob, 0, none⟩ v') v' f pks (k + 1)) := rowSame O9.out (fun b hb => Below.heap_setCell _ _ _ _ (by have := OB9.out b hb; dsimp only; omega))
      have KF : Hid ((w9.setCell ⟨ob, 0, none⟩ v').cell? ⟨ob, 0, none⟩ = some v' ∧ (w9.setCell ⟨ob, 0, none⟩ v').cell? ⟨ob, 1, none⟩ = some (.slice na K nc) ∧ (w9.setCell ⟨ob, 0, none⟩ v').frozen? ⟨ob, 0, none⟩ = false) := ⟨by rw [World.cell?_setCell_same _ _ _ q0], by rw [World.cell?_setCell_other _ _ _ _ (by simp), q1], by rw [World.frozen?_setCell]; exact fq0⟩
      have K2 : Hid ((w9.setCell ⟨ob, 0, none⟩ v').cell? ⟨rb, 0, none⟩ = some (.slice none 0 0) ∧ (w9.setCell ⟨ob, 0, none⟩ v').cell? ⟨rb, 1, none⟩ = some (.slice none 0 0) ∧ (w9.setCell ⟨ob, 0, none⟩ v').frozen? ⟨rb, 0, none⟩ = false ∧ (w9.setCell ⟨ob, 0, none⟩ v').frozen? ⟨rb, 1, none⟩ = false ∧ (w9.setCell ⟨ob, 0, none⟩ v').cell? ⟨w.heap.size, 0, none⟩ = some (.slice (some ⟨b, off, none⟩) N pc)) := by
        have e1 : rb ≠ ob := by omega
        have e2 : w.heap.size ≠ ob := by omega
        refine ⟨by rw [World.cell?_setCell_other _ _ _ _ (fun h => by cases h; exact e1 rfl)]; exact r0, by rw [World.cell?_setCell_other _ _ _ _ (fun h => by cases h)]; exact r1, by rw [World.frozen?_setCell]; exact fr0, by rw [World.frozen?_setCell]; exact fr1, by rw [World.cell?_setCell_other _ _ _ _ (fun h => by cases h; exact e2 rfl)]; exact y1⟩
      have E10 : Ext w (w9.setCell ⟨ob, 0, none⟩ v') := Below.setCell (p := ⟨ob, 0, none⟩) E9 (by show w.heap.size ≤ ob; omega) _
      clear hown9 hend9 O9 HOW B hi hi0 hi1 hi2 i0 c1 c2 c3
      subst hv'
      go_wp2
      refine ⟨⟨k + 1, by omega, by go_num, ⟨_, KF.out.1, KF.out.2.1, KF.out.2.2, O10.out, OB9.out⟩, K2.out, by have := E10.size; simp; omega, E10⟩, by simp [intOf]; omega⟩
    · have hke : k = N := by omega
      subst hke
      have hlt' : ¬ (k : Int) < (k : Int) := by omega
      obtain ⟨ra, rc, hv, _, _⟩ := rowFull hown
      subst hv
      have HOW := Lib.hid hown
      have HOB := Lib.hid hob
      clear hown hob HV HRB
      go_wp2
      (try simp only [Exit.inBlock, Exit.then])
      have E11 : Ext w ((wr.setCell ⟨rb, 0, none⟩ (.slice ra k rc)).setCell ⟨rb, 1, none⟩ (.slice na K nc)) := Below.setCell (p := ⟨rb, 1, none⟩) (Below.setCell (p := ⟨rb, 0, none⟩) he (by show w.heap.size ≤ rb; omega) _) (by show w.heap.size ≤ rb; omega) _
      have O11 : OwnsG ((wr.setCell ⟨rb, 0, none⟩ (.slice ra k rc)).setCell ⟨rb, 1, none⟩ (.slice na K nc)) (.slice ra k rc) f pks k := rowSame (rowSame HOW.out (fun b hb => Below.heap_setCell _ _ _ _ (by have := HOB.out b hb; dsimp only; omega))) (fun b hb => Below.heap_setCell _ _ _ _ (by have := HOB.out b hb; dsimp only; omega))
      refine bodyPost_ret (v := .agg #[.slice ra k rc, .slice na K nc]) (by rw [results_cellT rfl]; go_simp) rfl ?_
      rw [HN.out] at O11
      obtain ⟨pa', pc', hv, hT⟩ := OwnsG.task O11 (fun i hi => by
        obtain ⟨_, _, _, _, h, _⟩ := HF.out i hi
        rw [HN.out] at E11
        exact h.ext E11) (HT.out.1.ext (by rw [HN.out] at E11; exact E11)) HT.out.2.1 HT.out.2.2
      injection hv with e1 e2 e3
      subst e1; subst e3
      refine ⟨ra, rc, na, nc, ?_, ?_, E11⟩
      · unfold taskV
        rw [← HN.out, ← HK.out]
      · rw [← HN.out] at hT
        exact hT
end Go.Proofs.YtmndcdjcodfchaaGreatDoor
namespace Go.Proofs.YtmndcdjcodfchaaGreatDoor
open Go.RowKit
def thinB (p : Pk) : Bool := decide (p.parts.length ≤ 100)
def smallB (pks : List Pk) (need : List Int) : Bool := decide (pks.length ≤ 100) && (pks.all thinB && decide (need.length ≤ 100))
theorem small_hit {pks : List Pk} {need : List Int} {k : Nat} (hk : k < pks.length) (h : 100 < (pks.getD k pk0).parts.length) : smallB pks need = false := by
  have : pks.all thinB = false := by
    cases ha : pks.all thinB
    · rfl
    · rw [List.all_eq_true] at ha
      have := ha _ (getD_mem (d := pk0) hk)
      unfold thinB at this
      simp only [decide_eq_true_eq] at this
      omega
  unfold smallB
  rw [this, Bool.false_and, Bool.and_false]
theorem small_end {pks : List Pk} {need : List Int} (h : ∀ k, k < pks.length → ¬ 100 < (pks.getD k pk0).parts.length) : smallB pks need = (decide (pks.length ≤ 100) && decide (need.length ≤ 100)) := by
  have : pks.all thinB = true := by
    rw [List.all_eq_true]
    intro x hx
    obtain ⟨i, hi, e⟩ := List.mem_iff_getElem.1 hx
    have := h i hi
    rw [getD_of hi, e] at this
    unfold thinB
    exact decide_eq_true (by omega)
  unfold smallB
  rw [this, Bool.true_and]
set_option maxHeartbeats 4000000 in
theorem rSmall_any {pks : List Pk} {need : List Int} {pa : Option Addr} {pc : Nat} {na : Option Addr} {nc : Nat} {w : World} (ht : TaskG w pks need pa pc na nc) :
    Calls Tryz.prog 38 #[taskV pks need pa pc na nc] w fun e w' => e = .returned (.bool (smallB pks need)) ∧ Ext w w' := by
  unfold taskV
  obtain ⟨r, hr⟩ : ∃ r, smallB pks need = r := ⟨_, rfl⟩
  rw [hr]
  have HP := Lib.hid ht.pk
  obtain ⟨N, hN⟩ : ∃ N, N = pks.length := ⟨_, rfl⟩
  obtain ⟨K, hK⟩ : ∃ K, K = need.length := ⟨_, rfl⟩
  have HHIT : Hid (∀ k, k < N → 100 < (pks.getD k pk0).parts.length → r = false) := fun k hk h => by rw [← hr]; exact small_hit (by omega) h
  have HEND : Hid ((∀ k, k < N → ¬ 100 < (pks.getD k pk0).parts.length) → r = (decide (N ≤ 100) && decide (K ≤ 100))) := fun h => by rw [← hr, hN, hK]; exact small_end (by rw [← hN]; exact h)
  have hNm : N ≤ 9223372036854775807 := by have h1 := ht.p1; have h2 := ht.p2; unfold maxLen at h2; omega
  rw [← hN, ← hK]
  have HN := Lib.hid hN
  clear ht hr hN hK
  have E0 : Ext w (w.alloc (.cells #[.slice pa N pc, .slice na K nc] 30)) := (Ext.refl _).alloc _
  have y1 : (w.alloc (.cells #[.slice pa N pc, .slice na K nc] 30)).cell? ⟨w.heap.size, 0, none⟩ = some (.slice pa N pc) := by go_simp
  have y2 : (w.alloc (.cells #[.slice pa N pc, .slice na K nc] 30)).cell? ⟨w.heap.size, 1, none⟩ = some (.slice na K nc) := by go_simp
  go_enter Tryz.func38, Tryz.ntmps38
  go_wp2
  generalize w.alloc (.cells #[.slice pa N pc, .slice na K nc] 30) = W at E0 y1 y2 ⊢
  go_loopw [3] (fun i wr => ∃ k : Nat, k ≤ N ∧ i = .int .i64 k ∧ Hid (∀ j, j < k → ¬ 100 < (pks.getD j pk0).parts.length) ∧ Ext W wr) (fun i _ => N - (intOf i).toNat)
  case atStart => exact ⟨0, Nat.zero_le _, rfl, fun j hj => absurd hj (Nat.not_lt_zero j), Ext.refl _⟩
  case round =>
    obtain ⟨k, hk, rfl, hz, he⟩ := hrel
    have y1 := he.cell y1
    have y2 := he.cell y2
    have z0 := cell_lt y1
    dsimp only at z0
    by_cases hlt : k < N
    · have hlt' : (k : Int) < (N : Int) := by omega
      obtain ⟨b, off, v, rfl, c1, ⟨ai, ci, rfl, cs, _, _⟩, c2, c3⟩ := (HP.out.ext (E0.trans he)) k (by rw [← HN.out]; exact hlt)
      have hh := HHIT.out k hlt
      have hn : ¬ 100 < (pks.getD k pk0).parts.length → ∀ j, j < k + 1 → ¬ 100 < (pks.getD j pk0).parts.length := fun h j hj => by
        rcases Nat.lt_or_eq_of_le (Nat.le_of_lt_succ hj) with h2 | rfl
        · exact hz.out j h2
        · exact h
      generalize (pks.getD k pk0).parts.length = L at c1 hh hn
      have z1 := cell_lt c1
      dsimp only at z1
      clear cs c2 c3 hz
      by_cases h1 : 100 < L
      · obtain rfl := hh h1
        have h1' : (100 : Int) < (L : Int) := by omega
        clear hh hn
        go_wp2
        go_ret
        exact ⟨rfl, E0.trans he⟩
      · have HG := Lib.hid (hn h1)
        have h1' : ¬ (100 : Int) < (L : Int) := by omega
        clear hh hn
        go_wp2
        exact ⟨⟨k + 1, by omega, by go_num, HG.out, he⟩, by simp [intOf]; omega⟩
    · have hke : k = N := by omega
      subst hke
      have hlt' : ¬ (k : Int) < (k : Int) := by omega
      have hr := HEND.out hz.out
      clear hz
      by_cases h1 : k ≤ 100
      · have h1' : (k : Int) ≤ 100 := by omega
        by_cases h2 : K ≤ 100
        · have h2' : (K : Int) ≤ 100 := by omega
          rw [decide_eq_true h1, decide_eq_true h2] at hr
          subst hr
          go_wp2
          go_ret
          exact ⟨rfl, E0.trans he⟩
        · have h2' : ¬ (K : Int) ≤ 100 := by omega
          rw [decide_eq_false h2, Bool.and_false] at hr
          subst hr
          go_wp2
          go_ret
          exact ⟨rfl, E0.trans he⟩
      · have h1' : ¬ (k : Int) ≤ 100 := by omega
        rw [decide_eq_false h1, Bool.false_and] at hr
        subst hr
        go_wp2
        go_ret
        exact ⟨rfl, E0.trans he⟩
set_option maxHeartbeats 2000000 in
theorem small_any {pks : List Pk} {need : List Int} {pa : Option Addr} {pc : Nat} {na : Option Addr} {nc : Nat} {w : World} (ht : TaskG w pks need pa pc na nc) :
    Calls Tryz.prog 9 #[taskV pks need pa pc na nc] w fun e w' => e = .returned (.bool (smallB pks need)) ∧ Ext w w' := by
  have H1 := Lib.hid (fun W (hW : Ext w W) h => Of_any (ht.ext hW) h)
  have H2 := Lib.hid (fun pa' pc' na' nc' W (h : TaskG W pks need pa' pc' na' nc') => rSmall_any h)
  have hsm : ¬ pks.length ≤ 100 → smallB pks need = false := fun h => by unfold smallB; rw [decide_eq_false h, Bool.false_and]
  have hNm : pks.length ≤ 9223372036854775807 := by have h1 := ht.p1; have h2 := ht.p2; unfold maxLen at h2; omega
  generalize smallB pks need = r at H2 hsm ⊢
  unfold TaskP at H1
  unfold taskV at H1 H2 ⊢
  clear ht
  have E0 : Ext w (w.alloc (.cells #[.slice pa pks.length pc, .slice na need.length nc] 25)) := (Ext.refl _).alloc _
  go_enter Tryz.func9, Tryz.ntmps9
  by_cases h1 : pks.length ≤ 100
  · have h1' : (pks.length : Int) ≤ 100 := by omega
    go_wp2_with fail
    refine (H1.out _ E0 h1).mono ?_
    rintro e w1 ⟨pa', pc', na', nc', rfl, hT, hE⟩
    have H3 := Lib.hid (H2.out _ _ _ _ _ hT)
    have E1 := E0.trans hE
    clear hT hE H1 H2 hsm
    go_wp2_with fail
    refine H3.out.mono ?_
    rintro e w2 ⟨rfl, hE⟩
    go_wp2
    go_ret
    exact ⟨rfl, E1.trans hE⟩
  · have h1' : ¬ (pks.length : Int) ≤ 100 := by omega
    obtain rfl := hsm h1
    go_wp2
    go_ret
    exact ⟨rfl, E0⟩
theorem smallB_of {pks : List Pk} {need : List Int} (h : smallB pks need = true) : pks.length ≤ 100 ∧ need.length ≤ 100 := by
  unfold smallB at h
  rw [Bool.and_eq_true, Bool.and_eq_true] at h
  exact ⟨of_decide_eq_true h.1, of_decide_eq_true h.2.2⟩
end Go.Proofs.YtmndcdjcodfchaaGreatDoor
namespace Go.Proofs.YtmndcdjcodfchaaGreatDoor
open Go.RowKit
set_option maxHeartbeats 1000000 in
theorem EqualI_any (l m : List Int) (a a' : Option Addr) (cap cap' : Nat) (w : World) (hl : l.length ≤ maxLen) (hc : CellsI w a l) (hd : CellsI w a' m) :
    Calls Tryz.prog 15 #[.slice a l.length cap, .slice a' m.length cap'] w fun e w' => e = .returned (.bool (decide (l = m))) ∧ Ext w w' := by
  unfold maxLen at hl
  by_cases hlen : l.length = m.length
  · have HLE := Lib.hid hlen
    have hle : ((l.length : Int) != (m.length : Int)) = false := by simp [hlen]
    have hle2 : (l.length != m.length) = false := by simp [hlen]
    clear hlen
    go_enter Tryz.func15, Tryz.ntmps15
    go_wp2
    go_loopw [13] (fun i wr => ∃ k : Nat, k ≤ l.length ∧ i = .int .i64 k ∧ Hid (∀ j, j < k → l.getD j 0 = m.getD j 0) ∧ Ext w wr) (fun i _ => l.length - (intOf i).toNat)
    case atStart => exact ⟨0, Nat.zero_le _, rfl, fun j hj => by omega, Ext.refl _⟩
    case round =>
      obtain ⟨k, hk, rfl, hn, he⟩ := hrel
      by_cases hlt : k < l.length
      · obtain ⟨b, off, ha, e1⟩ := hc.ext he k hlt
        obtain ⟨b', off', ha', d1⟩ := hd.ext he k (by have := HLE.out; omega)
        have HC : Hid (CellsI w a l) := hc
        have HD : Hid (CellsI w a' m) := hd
        subst ha ha'
        clear hc hd
        have hkm : (k : Int) < (m.length : Int) := by have := HLE.out; omega
        generalize hx : l.getD k 0 = x at e1
        generalize hy : m.getD k 0 = y at d1
        have HX := Lib.hid hx
        have HY := Lib.hid hy
        clear hx hy
        by_cases heq : x = y
        · subst heq
          go_wp2
          go_quiet (fail)
          go_wp2
          refine ⟨⟨k + 1, by omega, by go_num, fun j hj => ?_, he.drewN _⟩, by simp [intOf]; omega⟩
          by_cases e : j = k
          · subst e; rw [HX.out, HY.out]
          · exact hn.out j (by omega)
        · have hne : Hid (l ≠ m) := by rintro rfl; exact heq (HX.out.symm.trans HY.out)
          have h2 : (x == y) = false := by simpa using heq
          have h3 : (x != y) = true := by simpa using heq
          clear heq
          go_wp2
          go_quiet (fail)
          go_wp2
          go_ret
          exact ⟨ret_bool (by simp [hne.out]), he.drewN _⟩
      · go_wp2
        go_ret
        refine ⟨ret_bool ?_, he⟩
        symm
        rw [decide_eq_true_eq]
        refine List.ext_getElem HLE.out fun i h1 h2 => ?_
        have := hn.out i (by omega)
        rw [List.getD_eq_getElem?_getD, List.getD_eq_getElem?_getD, List.getElem?_eq_getElem h1, List.getElem?_eq_getElem h2] at this
        simpa using this
  · have hne : l ≠ m := by rintro rfl; exact hlen rfl
    have hle : ((l.length : Int) != (m.length : Int)) = true := by simp; omega
    have hle2 : (l.length != m.length) = true := by simp; omega
    have hle3 : ((l.length : Int) == (m.length : Int)) = false := by simp; omega
    have hle4 : (l.length == m.length) = false := by simp; omega
    have HNE := Lib.hid hne
    clear hne hlen
    go_enter Tryz.func15, Tryz.ntmps15
    go_wp2
    go_ret
    exact ⟨ret_bool (by simp [HNE.out]), Ext.refl _⟩
end Go.Proofs.YtmndcdjcodfchaaGreatDoor
namespace Go.Proofs.YtmndcdjcodfchaaGreatDoor
open Go.RowKit
theorem three_order : orderL threeP [3, 2] = [1, 0, 1] ∧ orderP threeP [3, 2] = 17 ∧ orderE threeP [3, 2] = 0 := by decide +kernel
theorem three_bound : boundS threeP [3, 2] [[53], [49]] = ([49, 55], 0) := by decide +kernel
theorem three_bound2 : boundS threeP [3, 2] [[53], [50]] = ([], 15) := by decide +kernel
theorem three_rest : restL threeP [3, 2] [1, 0, 1] = [0, 0] ∧ verifyS threeP [3, 2] [1, 0, 1] = 0 := by decide +kernel
theorem one_refill : refillL [⟨3, 10, 5⟩] = [10] ∧ refillE [⟨3, 10, 5⟩] = 0 := by decide +kernel
def ThreeP (w : World) (e : Ending) (w' : World) : Prop := ∃ pa na, e = .returned (.agg #[.slice pa 3 3, .slice na 2 2]) ∧ TaskG w' threeP [3, 2] pa 3 na 2 ∧ Ext w w'
theorem slice_two (w : World) (b : Nat) (x y : Int) (h0 : w.cell? ⟨b, 0, none⟩ = some (.int .i64 x)) (h1 : w.cell? ⟨b, 1, none⟩ = some (.int .i64 y)) : SliceI w (.slice (some ⟨b, 0, none⟩) 2 2) [x, y] := ⟨_, 2, rfl, cells_two w b x y h0 h1, Nat.le_refl _, by unfold maxLen; omega⟩
set_option maxHeartbeats 2000000 in
theorem Three_any (w : World) : Calls Tryz.prog 40 #[] w fun e w' => ThreeP w e w' := by
  go_enter Tryz.func40, Tryz.ntmps40
  go_wp2
  (try simp only [Exit.inBlock, Exit.then])
  refine bodyPost_ret (v := .agg #[.slice (some ⟨w.heap.size + 1 + 1 + 1 + 1, 0, none⟩) 3 3, .slice (some ⟨w.heap.size + 1 + 1 + 1 + 1 + 1, 0, none⟩) 2 2]) (by rw [results_cellT rfl]; go_simp) rfl ⟨_, _, rfl, ⟨?_, cells_two _ _ _ _ (by go_simp) (by go_simp), Nat.le_refl _, by unfold maxLen; omega, Nat.le_refl _, by unfold maxLen; omega⟩, ((((((Ext.refl _).alloc _).alloc _).alloc _).alloc _).alloc _).alloc _⟩
  intro i hi
  have h3 : i < 3 := hi
  rcases i with _ | _ | _ | i
  · exact ⟨w.heap.size + 1 + 1 + 1 + 1, 0, .slice (some ⟨w.heap.size + 1, 0, none⟩) 2 2, rfl, by go_simp, slice_two _ _ _ _ (by go_simp) (by go_simp), by show World.cell? _ _ = some (.int .i64 5); go_simp, by show World.cell? _ _ = some (.int .i64 9); go_simp⟩
  · exact ⟨w.heap.size + 1 + 1 + 1 + 1, 0, .slice (some ⟨w.heap.size + 1 + 1, 0, none⟩) 2 2, rfl, by go_simp, slice_two _ _ _ _ (by go_simp) (by go_simp), by show World.cell? _ _ = some (.int .i64 4); go_simp, by show World.cell? _ _ = some (.int .i64 9); go_simp⟩
  · exact ⟨w.heap.size + 1 + 1 + 1 + 1, 0, .slice (some ⟨w.heap.size + 1 + 1 + 1, 0, none⟩) 2 2, rfl, by go_simp, slice_two _ _ _ _ (by go_simp) (by go_simp), by show World.cell? _ _ = some (.int .i64 12); go_simp, by show World.cell? _ _ = some (.int .i64 9); go_simp⟩
  · omega
theorem cellsT_two (w : World) (b : Nat) (x y : Txt) (h0 : w.cell? ⟨b, 0, none⟩ = some (txt x)) (h1 : w.cell? ⟨b, 1, none⟩ = some (txt y)) : CellsT w (some ⟨b, 0, none⟩) [x, y] := fun i hi => by
  rcases i with _ | _ | i
  · exact ⟨b, 0, rfl, h0⟩
  · exact ⟨b, 0, rfl, h1⟩
  · simp only [List.length_cons, List.length_nil] at hi
    omega
theorem cells_1 (w : World) (b : Nat) (x : Int) (h0 : w.cell? ⟨b, 0, none⟩ = some (.int .i64 x)) : CellsI w (some ⟨b, 0, none⟩) [x] := fun i hi => by
  rcases i with _ | i
  · exact ⟨b, 0, rfl, h0⟩
  · simp only [List.length_cons, List.length_nil] at hi
    omega
set_option maxHeartbeats 4000000 in
set_option maxRecDepth 100000 in
theorem awake_any (w : World) (hGl : Glob w) : Calls Tryz.prog 12 #[] w fun e w' => e = .returned (.bool true) ∧ Ext w w' := by
  have HO : Hid (∀ pa na W, TaskG W threeP [3, 2] pa 3 na 2 → Calls Tryz.prog 13 #[.agg #[.slice pa 3 3, .slice na 2 2]] W fun e w' => ∃ a cap, e = .returned (.tuple #[.slice a 3 cap, .int .i64 17, .int .i64 0]) ∧ CellsI w' a [1, 0, 1] ∧ Ext W w') := fun pa na W h => by
    have := Order_any h
    rw [three_order.1, three_order.2.1, three_order.2.2] at this
    exact this
  have HB1 : Hid (∀ pa na qa W, Glob W → TaskG W threeP [3, 2] pa 3 na 2 → CellsT W qa [[53], [49]] → Calls Tryz.prog 17 #[.agg #[.slice pa 3 3, .slice na 2 2], .slice qa 2 2] W fun e w' => e = .returned (.tuple #[txt [49, 55], .int .i64 0]) ∧ Ext W w') := fun pa na qa W hG h hc => by
    have := Bound_any (qc := 2) h hG hc (by decide) (by decide) (.inl (by decide))
    rw [three_bound] at this
    exact this
  have HB2 : Hid (∀ pa na qa W, Glob W → TaskG W threeP [3, 2] pa 3 na 2 → CellsT W qa [[53], [50]] → Calls Tryz.prog 17 #[.agg #[.slice pa 3 3, .slice na 2 2], .slice qa 2 2] W fun e w' => e = .returned (.tuple #[txt [], .int .i64 15]) ∧ Ext W w') := fun pa na qa W hG h hc => by
    have := Bound_any (qc := 2) h hG hc (by decide) (by decide) (.inl (by decide))
    rw [three_bound2] at this
    exact this
  have HRE : Hid (∀ pa na oa oc W, TaskG W threeP [3, 2] pa 3 na 2 → CellsI W oa [1, 0, 1] → Calls Tryz.prog 21 #[.agg #[.slice pa 3 3, .slice na 2 2], .slice oa 3 oc] W fun e w' => ∃ a cap, e = .returned (.tuple #[.slice a 2 cap, .int .i64 0]) ∧ CellsI w' a [0, 0] ∧ Ext W w') := fun pa na oa oc W h hc => by
    have := Rest_any (oc := oc) h hc (by unfold maxLen; decide)
    rw [three_rest.1, three_rest.2] at this
    exact this.mono fun e w' ⟨a, cap, h1, h2, _, _, h3⟩ => ⟨a, cap, h1, h2, h3⟩
  have HRF : Hid (∀ la W, LevAt W la [⟨3, 10, 5⟩] → Calls Tryz.prog 32 #[.slice la 1 1] W fun e w' => ∃ a cap, e = .returned (.tuple #[.slice a 1 cap, .int .i64 0]) ∧ CellsI w' a [10] ∧ Ext W w') := fun la W h => by
    have := Refill_any [⟨3, 10, 5⟩] la 1 W h (by unfold maxLen; decide)
    rw [one_refill.1, one_refill.2] at this
    exact this.mono fun e w' ⟨a, cap, h1, h2, _, _, h3⟩ => ⟨a, cap, h1, h2, h3⟩
  have HEQ : Hid (∀ (l : List Int) n (a a' : Option Addr) (cap cap' : Nat) W, n = l.length → n ≤ 100 → CellsI W a l → CellsI W a' l → Calls Tryz.prog 15 #[.slice a n cap, .slice a' n cap'] W fun e w' => e = .returned (.bool true) ∧ Ext W w') := fun l n a a' cap cap' W hn hl h1 h2 => by
    subst hn
    have := EqualI_any l l a a' cap cap' W (by unfold maxLen; omega) h1 h2
    rw [decide_eq_true rfl] at this
    exact this
  have HGL := Lib.hid hGl
  clear hGl
  go_enter Tryz.func12, Tryz.ntmps12
  go_wp2_with fail
  refine (Three_any _).mono ?_
  rintro e w1 ⟨pa, na, rfl, hT, E1⟩
  have HT := Lib.hid (HO.out pa na w1 hT)
  clear hT
  go_wp2_with fail
  refine HT.out.mono ?_
  rintro e w2 ⟨la, lc, rfl, hl, hE⟩
  have E2 := E1.trans hE
  have HL := Lib.hid hl
  clear hE HT E1 hl HO
  go_wp2_with fail
  refine (Three_any _).mono ?_
  rintro e w3 ⟨pa2, na2, rfl, hT, hE⟩
  have E3 := E2.trans hE
  have HL := Lib.hid (HL.out.ext hE)
  have HT := Lib.hid hT
  clear hE E2 hT
  go_wp2_with fail
  have EA : Ext w3 (w3.alloc (.cells #[txt [53], txt [49]] 41)) := extA
  refine (HB1.out pa2 na2 _ _ (HGL.out.ext (E3.trans EA)) (HT.out.ext EA) (cellsT_two _ _ _ _ (by go_simp) (by go_simp))).mono ?_
  rintro e w4 ⟨rfl, hE⟩
  have E4 := E3.trans (EA.trans hE)
  have HL := Lib.hid (HL.out.ext (EA.trans hE))
  clear hE E3 EA HT HB1
  go_wp2_with fail
  refine (Three_any _).mono ?_
  rintro e w5 ⟨pa3, na3, rfl, hT, hE⟩
  have E5 := E4.trans hE
  have HL := Lib.hid (HL.out.ext hE)
  have HT := Lib.hid hT
  clear hE E4 hT
  go_wp2_with fail
  have EA : Ext w5 (w5.alloc (.cells #[txt [53], txt [50]] 41)) := extA
  refine (HB2.out pa3 na3 _ _ (HGL.out.ext (E5.trans EA)) (HT.out.ext EA) (cellsT_two _ _ _ _ (by go_simp) (by go_simp))).mono ?_
  rintro e w6 ⟨rfl, hE⟩
  have E6 := E5.trans (EA.trans hE)
  have HL := Lib.hid (HL.out.ext (EA.trans hE))
  clear hE E5 EA HT HB2
  go_wp2_with fail
  refine (Three_any _).mono ?_
  rintro e w7 ⟨pa4, na4, rfl, hT, hE⟩
  have E7 := E6.trans hE
  have HL := Lib.hid (HL.out.ext hE)
  have HT := Lib.hid (HRE.out pa4 na4 la lc w7 hT HL.out)
  clear hE E6 hT HRE
  go_wp2_with fail
  refine HT.out.mono ?_
  rintro e w8 ⟨ra, rc, rfl, hr, hE⟩
  have E8 := E7.trans hE
  have HL := Lib.hid (HL.out.ext hE)
  have HR := Lib.hid hr
  clear hE E7 hr HT
  go_wp2_with fail
  have EA : Ext w8 (w8.alloc (.cells #[.int .i64 3, .int .i64 10, .int .i64 5] 69)) := extA
  have HLV : LevAt (w8.alloc (.cells #[.int .i64 3, .int .i64 10, .int .i64 5] 69)) (some ⟨w8.heap.size, 0, none⟩) [⟨3, 10, 5⟩] := fun i hi => by
    have hi0 : i = 0 := by simp only [List.length_cons, List.length_nil] at hi; omega
    subst hi0
    exact ⟨w8.heap.size, 0, rfl, by show World.cell? _ _ = some (.int .i64 3); go_simp, by show World.cell? _ _ = some (.int .i64 10); go_simp, by show World.cell? _ _ = some (.int .i64 5); go_simp⟩
  refine (HRF.out _ _ HLV).mono ?_
  rintro e w9 ⟨ma, mc, rfl, hm, hE⟩
  have E9 := E8.trans (EA.trans hE)
  have HL := Lib.hid (HL.out.ext (EA.trans hE))
  have HR := Lib.hid (HR.out.ext (EA.trans hE))
  have HM := Lib.hid hm
  clear hE E8 hm EA HLV HRF
  go_wp2_with fail
  have EA : Ext w9 (w9.alloc (.cells #[.int .i64 1, .int .i64 0, .int .i64 1] 3)) := extA
  refine (HEQ.out [1, 0, 1] 3 la _ lc 3 _ rfl (by decide) (HL.out.ext EA) (cells_three _ _ _ _ _ (by go_simp) (by go_simp) (by go_simp))).mono ?_
  rintro e wA ⟨rfl, hE⟩
  have EB := E9.trans (EA.trans hE)
  have HR := Lib.hid (HR.out.ext (EA.trans hE))
  have HM := Lib.hid (HM.out.ext (EA.trans hE))
  clear hE E9 EA HL
  go_wp2_with fail
  have EA : Ext wA (wA.alloc (.cells #[.int .i64 0, .int .i64 0] 3)) := extA
  refine (HEQ.out [0, 0] 2 ra _ rc 2 _ rfl (by decide) (HR.out.ext EA) (cells_two _ _ _ _ (by go_simp) (by go_simp))).mono ?_
  rintro e wB ⟨rfl, hE⟩
  have EC := EB.trans (EA.trans hE)
  have HM := Lib.hid (HM.out.ext (EA.trans hE))
  clear hE EB EA HR
  go_wp2_with fail
  have EA : Ext wB (wB.alloc (.cells #[.int .i64 10] 3)) := extA
  refine (HEQ.out [10] 1 ma _ mc 1 _ rfl (by decide) (HM.out.ext EA) (cells_1 _ _ _ (by go_simp))).mono ?_
  rintro e wC ⟨rfl, hE⟩
  have ED := EC.trans (EA.trans hE)
  go_wp2
  go_ret
  exact ⟨rfl, ED⟩
end Go.Proofs.YtmndcdjcodfchaaGreatDoor
