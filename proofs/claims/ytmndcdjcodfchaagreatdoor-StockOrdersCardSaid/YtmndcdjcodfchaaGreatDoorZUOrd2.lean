/- Steps of the proof: UROrd, ULOrd. No conditions. -/
import Derived.Test.YtmndcdjcodfchaaGreatDoorZUB1
import Derived.Test.YtmndcdjcodfchaaGreatDoorZUB2
import Derived.Test.YtmndcdjcodfchaaGreatDoorZUB3
import Derived.Test.YtmndcdjcodfchaaGreatDoorZUB4
import Derived.Test.YtmndcdjcodfchaaGreatDoorZUB5
import Derived.Test.YtmndcdjcodfchaaGreatDoorZUB6
import Derived.Test.YtmndcdjcodfchaaGreatDoorZUB7
import Derived.Test.YtmndcdjcodfchaaGreatDoorZUB8
import Derived.Test.YtmndcdjcodfchaaGreatDoorZUOrd1
namespace Go.Proofs.YtmndcdjcodfchaaGreatDoor
open Go.RowKit
theorem best_same {pks : List Pk} {need : List Int} (hr : Right pks need) : bestS pks need = foldS (mostT need need.length) need pks [] 0 0 bst0 := by
  have h := (buy_fold (M := mostT need need.length) (mostT_ge need need.length).1 hr.ok pks.length 0 (Nat.zero_add _) need 0 0 (List.replicate pks.length 0) bst0 rfl (fun k hk => (mostT_ge need need.length).2 k hk) (by simp)).1
  rw [List.drop_zero, List.take_zero] at h
  exact h
set_option maxHeartbeats 4000000 in
theorem rOrderT_any {pks : List Pk} {need : List Int} {pa : Option Addr} {pc : Nat} {na : Option Addr} {nc : Nat} {w : World} (ht : TaskG w pks need pa pc na nc) (hs : checkS pks need ≠ 0 ∨ Searched pks need) :
    Calls Tryz.prog 14 #[taskV pks need pa pc na nc] w fun e w' => OrdP (orderL pks need) (orderP pks need) (orderE pks need) w e w' := by
  have HCK := Lib.hid (fun w' (he : Ext w w') => rCheck_any (ht.ext he))
  have HBE := Lib.hid (fun w' (he : Ext w w') hr => rBest_any (ht.ext he) hr)
  have HPB := Lib.hid (fun W (hW : Ext w W) o (oa : Option Addr) oc (hc : CellsI W oa o) (hg : Gives pks need o) => rPrice_any (oc := oc) (ht.ext hW) hc hg)
  unfold taskV at HCK HBE HPB ⊢
  unfold OrdP
  obtain ⟨c, hc⟩ : ∃ c, checkS pks need = c := ⟨_, rfl⟩
  obtain ⟨eo, heo⟩ : ∃ e, orderE pks need = e := ⟨_, rfl⟩
  obtain ⟨lo, hlo⟩ : ∃ l, orderL pks need = l := ⟨_, rfl⟩
  obtain ⟨po, hpo⟩ : ∃ l, orderP pks need = l := ⟨_, rfl⟩
  rw [hc] at HCK hs
  rw [heo, hlo, hpo]
  have HC := Lib.hid (show _ ∧ _ ∧ _ ∧ _ from ⟨hc, heo, hlo, hpo⟩)
  have HS := Lib.hid hs
  clear ht hc heo hlo hpo hs
  have E0 : Ext w (w.alloc (.cells #[.slice pa pks.length pc, .slice na need.length nc] 30)) := (Ext.refl _).alloc _
  have y1 : (w.alloc (.cells #[.slice pa pks.length pc, .slice na need.length nc] 30)).cell? ⟨w.heap.size, 0, none⟩ = some (.slice pa pks.length pc) := by go_simp
  have y2 : (w.alloc (.cells #[.slice pa pks.length pc, .slice na need.length nc] 30)).cell? ⟨w.heap.size, 1, none⟩ = some (.slice na need.length nc) := by go_simp
  go_enter Tryz.func14, Tryz.ntmps14
  go_wp2_with fail
  refine (HCK.out _ E0).mono ?_
  rintro e w1 ⟨rfl, hE⟩
  have E1 := E0.trans hE
  have a1 := hE.cell y1
  have a2 := hE.cell y2
  have z1 := cell_lt a1
  dsimp only at z1
  clear hE E0 y1 y2 HCK
  by_cases h0 : c = 0
  rotate_left
  · have k1 : (c == 0) = false := by simp [h0]
    have h1 := order_check (pks := pks) (need := need) (by rw [HC.out.1]; exact h0)
    have h2 := order_bad (pks := pks) (need := need) (by rw [h1, HC.out.1]; exact h0)
    rw [HC.out.2.2.1, HC.out.2.2.2] at h2
    rw [HC.out.2.1, HC.out.1] at h1
    obtain ⟨rfl, rfl⟩ := h2
    subst h1
    go_wp2
    go_ret3
    exact ⟨none, 0, rfl, fun i hi => by simp at hi, E1⟩
  subst h0
  have hse : Searched pks need := by
    rcases HS.out with h | h
    · exact absurd rfl h
    · exact h
  have hg := order_good HC.out.1 hse.limit
  rw [HC.out.2.1, HC.out.2.2.1, HC.out.2.2.2, best_same hse.r] at hg
  have HG := Lib.hid hg
  have HB2 := Lib.hid (HBE.out _ E1 hse.r)
  clear hg HBE HS hse
  generalize foldS (mostT need need.length) need pks [] 0 0 bst0 = b at HG HB2
  go_wp2_with fail
  refine HB2.out.mono ?_
  rintro e w2 ⟨v, rfl, hb, hE⟩
  obtain ⟨ba, bc, rfl, hcb, hbg, _⟩ := hb
  have HCB := Lib.hid hcb
  have HBG := Lib.hid hbg
  have E2 := E1.trans hE
  have a1 := hE.cell a1
  have a2 := hE.cell a2
  have z1 := cell_lt a1
  dsimp only at z1
  clear hE E1 HB2 hcb hbg
  cases hf : b.found
  · obtain ⟨rfl, rfl, rfl⟩ : eo = 6 ∧ lo = [] ∧ po = 0 := by
      have h := HG.out
      rw [hf, if_neg (by simp), if_neg (by simp), if_neg (by simp)] at h
      exact h
    clear hf
    go_wp2
    go_ret3
    exact ⟨none, 0, rfl, fun i hi => by simp at hi, E2⟩
  · obtain ⟨hb1, hb2, _⟩ := HBG.out hf
    obtain ⟨rfl, rfl, rfl⟩ : eo = 0 ∧ lo = b.order ∧ po = b.price := by
      have h := HG.out
      rw [hf, if_pos rfl, if_pos rfl, if_pos rfl] at h
      exact h
    have HP := Lib.hid (fun W hW oc' (hc : CellsI W ba b.order) => HPB.out W hW b.order ba oc' hc hb1)
    rw [← hb2] at HP
    clear hf hb1 hb2
    go_wp2_with fail
    refine (HP.out _ E2 bc HCB.out).mono ?_
    rintro e w3 ⟨rfl, hE⟩
    have HCB2 := Lib.hid (HCB.out.ext hE)
    go_wp2
    go_ret3
    exact ⟨ba, bc, rfl, HCB2.out, E2.trans hE⟩
def FewP (pks : List Pk) (need : List Int) (w : World) (e : Ending) (w' : World) : Prop := ∃ r : Bool, e = .returned (.bool r) ∧ (r = true → checkS pks need ≠ 0 ∨ Searched pks need) ∧ Ext w w'
theorem few_ret {pks : List Pk} {need : List Int} {w w' : World} (r : Bool) (h : r = true → checkS pks need ≠ 0 ∨ Searched pks need) (hE : Ext w w') : FewP pks need w (.returned (.bool r)) w' := ⟨r, rfl, h, hE⟩
set_option maxHeartbeats 8000000 in
set_option maxRecDepth 100000 in
theorem rFew_any {pks : List Pk} {need : List Int} {pa : Option Addr} {pc : Nat} {na : Option Addr} {nc : Nat} {w : World} (ht : TaskG w pks need pa pc na nc) :
    Calls Tryz.prog 10 #[taskV pks need pa pc na nc] w fun e w' => FewP pks need w e w' := by
  have HCK := Lib.hid (fun w' (he : Ext w w') => rCheck_any (ht.ext he))
  have HMO := Lib.hid (fun W (hW : Ext w W) h => rMost_any (ht.ext hW) h)
  unfold taskV at HCK HMO ⊢
  have HP := Lib.hid ht.pk
  obtain ⟨N, hN⟩ : ∃ N, N = pks.length := ⟨_, rfl⟩
  obtain ⟨K, hK⟩ : ∃ K, K = need.length := ⟨_, rfl⟩
  obtain ⟨c, hc⟩ : ∃ c, checkS pks need = c := ⟨_, rfl⟩
  obtain ⟨m, hm⟩ : ∃ m, mostT need need.length = m := ⟨_, rfl⟩
  have hNm : N ≤ 9223372036854775807 := by have h1 := ht.p1; have h2 := ht.p2; unfold maxLen at h2; omega
  have HRES : Hid (c ≠ 0 ∨ (c = 0 ∧ N ≤ 5 ∧ m ≤ 20) → checkS pks need ≠ 0 ∨ Searched pks need) := fun h => by
    rcases h with h | ⟨h1, h2, h3⟩
    · exact .inl (by rw [hc]; exact h)
    · have hr := right_of (hc.trans h1)
      refine .inr ⟨hr, by omega, fun x hx => ⟨(hr.nd x hx).1, ?_⟩⟩
      obtain ⟨i, hi, e⟩ := List.mem_iff_getElem.1 hx
      have := (mostT_ge need need.length).2 i hi
      rw [getD_of hi, e, hm] at this
      omega
  rw [hc] at HCK
  rw [hm] at HMO
  rw [← hN, ← hK] at HCK HMO
  rw [← hN, ← hK]
  have HN := Lib.hid hN
  clear ht hc hN hK hm
  have E0 : Ext w (w.alloc (.cells #[.slice pa N pc, .slice na K nc] 30)) := (Ext.refl _).alloc _
  have y1 : (w.alloc (.cells #[.slice pa N pc, .slice na K nc] 30)).cell? ⟨w.heap.size, 0, none⟩ = some (.slice pa N pc) := by go_simp
  have y2 : (w.alloc (.cells #[.slice pa N pc, .slice na K nc] 30)).cell? ⟨w.heap.size, 1, none⟩ = some (.slice na K nc) := by go_simp
  go_enter Tryz.func10, Tryz.ntmps10
  by_cases hbig : 100 < N ∨ 100 < K
  · by_cases h1 : 100 < N
    · have h1' : (100 : Int) < (N : Int) := by omega
      go_wp2
      go_ret
      exact few_ret false (fun h => (by cases h)) (E0)
    · have h1' : ¬ (100 : Int) < (N : Int) := by omega
      have h2' : (100 : Int) < (K : Int) := by omega
      go_wp2
      go_ret
      exact few_ret false (fun h => (by cases h)) (E0)
  have h1' : ¬ (100 : Int) < (N : Int) := by omega
  have h2' : ¬ (100 : Int) < (K : Int) := by omega
  have hK100 : K ≤ 100 := by omega
  go_wp2
  generalize w.alloc (.cells #[.slice pa N pc, .slice na K nc] 30) = W at E0 y1 y2 ⊢
  go_loopw [3] (fun i wr => ∃ k : Nat, k ≤ N ∧ i = .int .i64 k ∧ Ext W wr) (fun i _ => N - (intOf i).toNat)
  case atStart => exact ⟨0, Nat.zero_le _, rfl, Ext.refl _⟩
  case round =>
    obtain ⟨k, hk, rfl, he⟩ := hrel
    have c1 := he.cell y1
    have c2 := he.cell y2
    have z0 := cell_lt c1
    dsimp only at z0
    have EK := E0.trans he
    by_cases hlt : k < N
    · have hlt' : (k : Int) < (N : Int) := by omega
      obtain ⟨b, off, v, rfl, d1, ⟨ai, ci, rfl, cs, _, _⟩, d2, d3⟩ := (HP.out.ext EK) k (by rw [← HN.out]; exact hlt)
      generalize (pks.getD k pk0).parts.length = L at d1
      have z1 := cell_lt d1
      dsimp only at z1
      clear cs d2 d3
      by_cases h1 : 100 < L
      · have h9 : (100 : Int) < (L : Int) := by omega
        go_wp2
        go_ret
        exact few_ret false (fun h => (by cases h)) (EK)
      · have h9 : ¬ (100 : Int) < (L : Int) := by omega
        go_wp2
        exact ⟨⟨k + 1, by omega, by go_num, he⟩, by simp [intOf]; omega⟩
    · have hke : k = N := by omega
      subst hke
      have hlt' : ¬ (k : Int) < (k : Int) := by omega
      clear y1 y2 he
      go_wp2_with fail
      refine (HCK.out _ EK).mono ?_
      rintro e w1 ⟨rfl, hE⟩
      have E1 := EK.trans hE
      have y1 := hE.cell c1
      have y2 := hE.cell c2
      have z1 := cell_lt y1
      dsimp only at z1
      clear hE EK c1 c2 z0 HCK E0
      by_cases h0 : c = 0
      rotate_left
      · have k1 : (c == 0) = false := by simp [h0]
        have HR2 := Lib.hid (HRES.out (.inl h0))
        go_wp2
        go_ret
        exact few_ret true (fun _ => HR2.out) (E1)
      subst h0
      go_wp2
      go_loopw [4, 5] (fun n i wr => ∃ j : Nat, j ≤ k ∧ i = .int .i64 j ∧ (∃ z : Int, n = .int .i64 z) ∧ Ext w1 wr) (fun _ i _ => k - (intOf i).toNat)
      case atStart => exact ⟨0, Nat.zero_le _, rfl, ⟨_, rfl⟩, Ext.refl _⟩
      case round =>
        obtain ⟨j, hj, rfl, ⟨z, rfl⟩, he⟩ := hrel
        have c1 := he.cell y1
        have c2 := he.cell y2
        have z0 := cell_lt c1
        dsimp only at z0
        have EK := E1.trans he
        by_cases hlt2 : j < k
        · have hlt2' : (j : Int) < (k : Int) := by omega
          obtain ⟨b, off, v, rfl, d1, _, d2, d3⟩ := (HP.out.ext EK) j (by rw [← HN.out]; exact hlt2)
          generalize (pks.getD j pk0).most = q at d3
          have z9 := cell_lt d3
          dsimp only at z9
          go_wp2_with fail
          refine wp_region_heldE 99 (fun w' => w'.cell? ⟨w.heap.size, 0, none⟩ = some (.slice (some ⟨b, off, none⟩) k pc) ∧ w'.cell? ⟨w.heap.size, 1, none⟩ = some (.slice na K nc) ∧ w'.cell? ⟨b, off + j * 3 + 2, none⟩ = some (.int .i64 q)) (by kernel_rfl) ?_
          have ED : Ext wr wr.drew := (Ext.refl _).drew
          have hS := show _ ∧ _ ∧ _ from ⟨ED.cell c1, ED.cell c2, ED.cell d3⟩
          have E5 := EK.trans ED
          have EX := he.trans ED
          clear c1 c2 d1 d2 d3 ED z0 z9
          generalize wr.drew = w5 at hS E5 EX ⊢
          obtain ⟨s1, s2, s3⟩ := hS
          have z0 := cell_lt s1
          have z9 := cell_lt s3
          dsimp only at z0 z9
          have hS := show _ ∧ _ ∧ _ from ⟨s1, s2, s3⟩
          ((refine eTk 0 ?_); (refine eTk 1 ?_); (refine eTk 2 ?_); (refine eTk 3 ?_); (refine eTk 4 ?_); (refine eTk 5 ?_); (refine eTk 6 ?_); (refine eTk 7 ?_))
          (refine wpAnyE_one (i := 8) (o := ?_) ?_ (by kernel_rfl) (fun K hK => ?_); rotate_left; (focus ((simp only [List.getElem?_toArray, List.getElem?_cons_succ, List.getElem?_cons_zero]; exact rfl))); go_simp; go_at_call 39; refine (HMO.out _ E5 hK100).mono ?_; rintro e w6 ⟨rfl, hE⟩; go_wp2_with fail; refine hK.out _ _ ?_ (fun hHeld => ?_); rotate_left; clear hK K; (try simp only [Act.put, List.setIfInBounds_toArray, List.set_cons_zero, List.set_cons_succ]))
          rotate_left
          · exact ⟨hE.cell s1, hE.cell s2, hE.cell s3⟩
          ((refine ePu 9 ?_); (refine ePu 10 ?_); (refine ePu 11 ?_); (refine ePu 12 ?_))
          refine wpAnyE_done (by kernel_rfl) ?_ _
          have E7 := EX.trans hE
          have E8 := E5.trans hE
          obtain ⟨z2, hz2⟩ : ∃ z2, z2 = IntKind.i64.wrap (z * IntKind.i64.wrap (min q m + 1)) := ⟨_, rfl⟩
          rw [← hz2]
          clear hE hHeld hS s1 s2 s3 hz2
          by_cases hz3 : 3000 < z2
          · go_wp2
            go_ret
            exact few_ret false (fun h => (by cases h)) (E8)
          · go_wp2
            exact ⟨⟨j + 1, by omega, by go_num, ⟨_, rfl⟩, E7⟩, by simp [intOf]; omega⟩
        · have hje : j = k := by omega
          subst hje
          have hlt2' : ¬ (j : Int) < (j : Int) := by omega
          by_cases h5 : j ≤ 5
          · have h5' : (j : Int) ≤ 5 := by omega
            go_wp2_with fail
            refine (HMO.out _ EK hK100).mono ?_
            rintro e w6 ⟨rfl, hE⟩
            have E6 := EK.trans hE
            by_cases h20 : m ≤ 20
            · have HR2 := Lib.hid (HRES.out (.inr ⟨trivial, h5, h20⟩))
              go_wp2
              go_ret
              exact few_ret true (fun _ => HR2.out) (E6)
            · have HD : Hid (decide (m ≤ 20) = false) := decide_eq_false h20
              go_wp2
              go_ret
              exact few_ret (decide (m ≤ 20)) (fun h => (by rw [HD.out] at h; cases h)) (E6)
          · have h5' : ¬ (j : Int) ≤ 5 := by omega
            go_wp2
            go_ret
            exact few_ret false (fun h => (by cases h)) (EK)
end Go.Proofs.YtmndcdjcodfchaaGreatDoor
namespace Go.Proofs.YtmndcdjcodfchaaGreatDoor
open Go.RowKit
theorem best_is {pks : List Pk} {need : List Int} (hr : Right pks need) {M : Int} (hM : 0 ≤ M) (hn : ∀ k, k < need.length → need.getD k 0 ≤ M) : Best M need pks (bestS pks need) := by
  have h := (buy_fold hM hr.ok pks.length 0 (Nat.zero_add _) need 0 0 (List.replicate pks.length 0) bst0 rfl hn (by simp)).1
  rw [List.drop_zero, List.take_zero] at h
  have h2 : bestS pks need = foldS M need pks [] 0 0 bst0 := h
  rw [h2]
  exact fold_best M need pks
theorem Searched.best {pks : List Pk} {need : List Int} (h : Searched pks need) : Best 20 need pks (bestS pks need) :=
  best_is h.r (by decide) fun _ hk => (h.nd _ (getD_mem hk)).2
theorem orderL_len {pks : List Pk} {need : List Int} (h : checkS pks need ≠ 0 ∨ Searched pks need) : (orderL pks need).length ≤ 5 := by
  by_cases he : orderE pks need = 0
  · rcases h with h | h
    · rw [order_check h] at he
      exact absurd he h
    · obtain ⟨h1, h2, _⟩ := order_good (of_right h.r) h.limit
      rw [he] at h1
      cases hf : (bestS pks need).found
      · rw [hf] at h1; cases h1
      · rw [h2, hf, if_pos rfl]
        have := (mem_caps.1 (h.best.yes hf).1).1
        have := h.len
        omega
  · rw [(order_bad he).1]
    exact Nat.zero_le _
set_option maxHeartbeats 8000000 in
set_option maxRecDepth 100000 in
theorem lawOrders_any {pks : List Pk} {need : List Int} {pa : Option Addr} {pc : Nat} {na : Option Addr} {nc : Nat} {w : World} (ht : TaskG w pks need pa pc na nc) (hGl : Glob w) :
    Calls Tryz.prog 3 #[taskV pks need pa pc na nc] w fun e w' => e = .returned (.bool true) ∧ Ext w w' := by
  have HSM := Lib.hid (fun W (hW : Ext w W) => small_any (ht.ext hW))
  have HAW := Lib.hid (fun W (hW : Ext w W) => awake_any W (hGl.ext hW))
  have HOF := Lib.hid (fun W (hW : Ext w W) h => Of_any (ht.ext hW) h)
  have HFE := Lib.hid (fun pa' pc' na' nc' W (h : TaskG W pks need pa' pc' na' nc') => rFew_any h)
  have HO1 := Lib.hid (fun W (hW : Ext w W) => Order_any (ht.ext hW))
  have HO2 := Lib.hid (fun pa' pc' na' nc' W (h : TaskG W pks need pa' pc' na' nc') hs => rOrderT_any h hs)
  have HEQ : Hid (∀ (l : List Int) (a a' : Option Addr) (cap cap' : Nat) W, l.length ≤ maxLen → CellsI W a l → CellsI W a' l → Calls Tryz.prog 15 #[.slice a l.length cap, .slice a' l.length cap'] W fun e w' => e = .returned (.bool true) ∧ Ext W w') := fun l a a' cap cap' W h h1 h2 => by
    have := EqualI_any l l a a' cap cap' W h h1 h2
    rw [decide_eq_true rfl] at this
    exact this
  have hsm : smallB pks need = true → pks.length ≤ 100 := fun h => (smallB_of h).1
  have HLE : Hid (checkS pks need ≠ 0 ∨ Searched pks need → (orderL pks need).length ≤ maxLen) := fun h => by
    have := orderL_len h
    unfold maxLen; omega
  unfold TaskP at HOF
  unfold OrdP at HO1 HO2
  unfold FewP at HFE
  unfold taskV at HSM HOF HFE HO1 HO2 ⊢
  obtain ⟨N, hN⟩ : ∃ N, N = pks.length := ⟨_, rfl⟩
  obtain ⟨K, hK⟩ : ∃ K, K = need.length := ⟨_, rfl⟩
  rw [← hN, ← hK] at HSM HOF HFE HO1 HO2
  rw [← hN, ← hK]
  rw [← hN] at hsm
  generalize smallB pks need = sm at HSM hsm
  generalize orderL pks need = ol at HO1 HO2 HLE
  generalize orderP pks need = op at HO1 HO2
  generalize orderE pks need = oe at HO1 HO2
  clear ht hGl hN hK
  have E0 : Ext w (w.alloc (.cells #[.slice pa N pc, .slice na K nc] 25)) := (Ext.refl _).alloc _
  have y1 : (w.alloc (.cells #[.slice pa N pc, .slice na K nc] 25)).cell? ⟨w.heap.size, 0, none⟩ = some (.slice pa N pc) := by go_simp
  have y2 : (w.alloc (.cells #[.slice pa N pc, .slice na K nc] 25)).cell? ⟨w.heap.size, 1, none⟩ = some (.slice na K nc) := by go_simp
  go_enter Tryz.func3, Tryz.ntmps3
  go_wp2_with fail
  refine (HSM.out _ E0).mono ?_
  rintro e w1 ⟨rfl, hE⟩
  have E1 := E0.trans hE
  have y1 := hE.cell y1
  have y2 := hE.cell y2
  have z := cell_lt y1
  dsimp only at z
  clear hE E0 HSM
  cases sm
  case false =>
    clear hsm
    go_wp2_with fail
    refine (HAW.out _ E1).mono ?_
    rintro e w2 ⟨rfl, hE⟩
    go_wp2
    go_ret
    exact ⟨rfl, E1.trans hE⟩
  have hN1 := hsm rfl
  clear hsm
  go_wp2_with fail
  refine (HOF.out _ E1 hN1).mono ?_
  rintro e w2 ⟨pa1, pc1, na1, nc1, rfl, hT, hE⟩
  have E2 := E1.trans hE
  have y1 := hE.cell y1
  have y2 := hE.cell y2
  have z := cell_lt y1
  dsimp only at z
  have HX := Lib.hid (HFE.out _ _ _ _ _ hT)
  clear hE E1 hT HFE
  go_wp2_with fail
  refine HX.out.mono ?_
  rintro e w3 ⟨fb, rfl, hfb, hE⟩
  have HFB := Lib.hid hfb
  have E3 := E2.trans hE
  have y1 := hE.cell y1
  have y2 := hE.cell y2
  have z := cell_lt y1
  dsimp only at z
  clear hE E2 HX hfb
  cases fb
  case false =>
    go_wp2_with fail
    refine (HAW.out _ E3).mono ?_
    rintro e w4 ⟨rfl, hE⟩
    go_wp2
    go_ret
    exact ⟨rfl, E3.trans hE⟩
  have HSE := Lib.hid (HFB.out rfl)
  have HLM := Lib.hid (HLE.out HSE.out)
  clear HFB HLE
  go_wp2_with fail
  refine (HO1.out _ E3).mono ?_
  rintro e w4 ⟨la, lc, rfl, hl, hE⟩
  have E4 := E3.trans hE
  have HL := Lib.hid hl
  have y1 := hE.cell y1
  have y2 := hE.cell y2
  have z := cell_lt y1
  dsimp only at z
  clear hE E3 HO1 hl
  go_wp2_with fail
  refine (HOF.out _ E4 hN1).mono ?_
  rintro e w5 ⟨pa2, pc2, na2, nc2, rfl, hT, hE⟩
  have E5 := E4.trans hE
  have HL := Lib.hid (HL.out.ext hE)
  have HX := Lib.hid (HO2.out _ _ _ _ _ hT HSE.out)
  clear hE E4 hT HO2 HOF y1 y2 z
  go_wp2_with fail
  refine HX.out.mono ?_
  rintro e w6 ⟨ma, mc, rfl, hm, hE⟩
  have E6 := E5.trans hE
  have HL := Lib.hid (HL.out.ext hE)
  have HM := Lib.hid hm
  clear hE E5 hm HX
  go_wp2_with fail
  refine (HEQ.out ol la ma lc mc _ HLM.out HL.out HM.out).mono ?_
  rintro e w7 ⟨rfl, hE⟩
  have E7 := E6.trans hE
  clear hE E6
  go_wp2_with fail
  refine (HAW.out _ E7).mono ?_
  rintro e w8 ⟨rfl, hE⟩
  go_wp2
  go_ret
  exact ⟨rfl, E7.trans hE⟩
end Go.Proofs.YtmndcdjcodfchaaGreatDoor
