/- Steps of the proof: URf5, ULLev. No conditions. -/
import Derived.Test.YtmndcdjcodfchaaGreatDoorZUB1
import Derived.Test.YtmndcdjcodfchaaGreatDoorZUB2
import Derived.Test.YtmndcdjcodfchaaGreatDoorZUB3
import Derived.Test.YtmndcdjcodfchaaGreatDoorZUB4
import Derived.Test.YtmndcdjcodfchaaGreatDoorZUB5
import Derived.Test.YtmndcdjcodfchaaGreatDoorZUB6
import Derived.Test.YtmndcdjcodfchaaGreatDoorZUB7
import Derived.Test.YtmndcdjcodfchaaGreatDoorZUB8
import Derived.Test.YtmndcdjcodfchaaGreatDoorZULev1
namespace Go.Proofs.YtmndcdjcodfchaaGreatDoor
open Go.RowKit
set_option maxHeartbeats 16000000 in
set_option maxRecDepth 100000 in
theorem rRefill_any (l : List Lv) (la : Option Addr) (cap : Nat) (w : World) (hl : LevAt w la l) (hm : l.length ≤ maxLen) :
    Calls Tryz.prog 33 #[.slice la l.length cap] w fun e w' => SliceE (refillL l) (refillE l) w e w' := by
  unfold SliceE
  unfold maxLen at hm
  have HC := Lib.hid hl
  obtain ⟨n, hn⟩ : ∃ n, n = l.length := ⟨_, rfl⟩
  obtain ⟨r, hr⟩ : ∃ r, refillE l = r := ⟨_, rfl⟩
  obtain ⟨q, hq⟩ : ∃ q, refillL l = q := ⟨_, rfl⟩
  rw [← hn] at hm
  rw [hr, hq, ← hn]
  have HN := Lib.hid hn
  have HR := Lib.hid (show _ ∧ _ from ⟨hr, hq⟩)
  clear hl hn hr hq
  by_cases h0 : 256 < n
  · have h0' : (256 : Int) < (n : Int) := by omega
    obtain ⟨rfl, rfl⟩ : r = 5 ∧ q = [] := by
      have := refill_many (l := l) (by rw [← HN.out]; exact h0)
      rw [HR.out.1, HR.out.2] at this
      exact this
    go_enter Tryz.func33, Tryz.ntmps33
    go_wp2
    go_ret2
    exact ⟨none, 0, rfl, fun i hi => by simp at hi, Nat.le_refl _, Nat.zero_le _, Ext.refl _⟩
  have h0' : ¬ (256 : Int) < (n : Int) := by omega
  have HBAD : Hid (∀ k, k < n → badLv (l.getD k lv0) = true → r = 2 ∧ q = []) := fun k hk hb => by
    have := refill_bad (l := l) (by rw [← HN.out]; exact h0) (by rw [← HN.out]; exact hk) hb
    rw [HR.out.1, HR.out.2] at this
    exact this
  have HOK : Hid ((∀ j, j < n → badLv (l.getD j lv0) = false) → r = 0 ∧ q = l.map fillS) := fun hb => by
    have := refill_ok (l := l) (by rw [← HN.out]; exact h0) (by rw [← HN.out]; exact hb)
    rw [HR.out.1, HR.out.2] at this
    exact this
  clear HR
  go_enter Tryz.func33, Tryz.ntmps33
  go_wp2
  go_loopw [4, 5] (fun v i wr => ∃ k : Nat, k ≤ n ∧ i = .int .i64 k ∧ Hid (OwnsI wr v ((l.map fillS).take k)) ∧ Hid (∀ b, v.ownBlock = some b → w.heap.size ≤ b) ∧ Hid (∀ j, j < k → badLv (l.getD j lv0) = false) ∧ Ext w wr) (fun _ i _ => n - (intOf i).toNat)
  case atStart => exact ⟨0, Nat.zero_le _, rfl, OwnsI.nil _, fun b hb => (by cases hb), fun j hj => absurd hj (Nat.not_lt_zero j), Ext.refl _⟩
  case round =>
    obtain ⟨k, hk, rfl, HO, HV, HZ, he⟩ := hrel
    by_cases hlt : k < n
    · have hlt' : (k : Int) < (n : Int) := by omega
      obtain ⟨b, off, rfl, c1, c2, c3⟩ := HC.out.ext he k (by rw [← HN.out]; exact hlt)
      have hbad := HBAD.out k hlt
      have hnx := take_map_succ (l := l) (k := k) (by rw [← HN.out]; exact hlt)
      have hzz : badLv (l.getD k lv0) = false → ∀ j, j < k + 1 → badLv (l.getD j lv0) = false := fun h j hj => by
        rcases Nat.lt_or_eq_of_le (Nat.le_of_lt_succ hj) with h2 | rfl
        · exact HZ.out j h2
        · exact h
      generalize l.getD k lv0 = x at c1 c2 c3 hbad hnx hzz
      have HB := Lib.hid hbad
      have HX := Lib.hid hnx
      have HZZ := Lib.hid hzz
      have z1 := cell_lt c1
      dsimp only at z1
      clear hbad hnx hzz HZ
      have HBL : Hid (b < w.heap.size) := by
        obtain ⟨b', o', hb', c', _⟩ := HC.out k (by rw [← HN.out]; exact hlt)
        cases hb'
        exact cell_lt c'
      have HBX : Hid ((isNeg x.has = true → badLv x = true) ∧ (isNeg x.least = true → badLv x = true) ∧ (isNeg x.lot = true → badLv x = true) ∧ (isNeg x.has = false → isNeg x.least = false → isNeg x.lot = false → x.lot ≠ 0 → badLv x = false)) :=
        ⟨fun h => bad_a (by simp [h]), fun h => bad_a (by simp [h]), fun h => bad_a (by simp [h]), fun h1 h2 h3 h4 => bad_c (by simp [h1, h2, h3]) h4⟩
      have HFB := Lib.hid (fun h => fill_bd (x := x) h)
      have HFL : Hid (fillS x = (max 0 (x.least - x.has) + x.lot - 1).tdiv x.lot * x.lot) := rfl
      have HBB : Hid (x.lot = 0 → badLv x = true) := fun h => bad_b h
      generalize hbx : badLv x = bx at HB HZZ HBX HFB HBB
      have HBX2 := Lib.hid hbx
      clear hbx
      generalize fillS x = fx at HX HFB HFL
      generalize x.has = a at c1 HBX HFB HFL
      generalize x.least = c at c2 HBX HFB HFL
      generalize x.lot = d at c3 HBX HFB HFL HBB
      have z2 := cell_lt c2
      have z3 := cell_lt c3
      dsimp only at z2 z3
      go_wp2_with fail
      refine (rCount_any a _).mono ?_
      rintro e w1 ⟨rfl, hE⟩
      have c1 := hE.cell c1
      have c2 := hE.cell c2
      have c3 := hE.cell c3
      have E1 := he.trans hE
      have HO1 := Lib.hid (HO.out.ext hE)
      clear hE HO he z1 z2 z3
      have z1 := cell_lt c1
      dsimp only at z1
      cases ha : isNeg a
      case true =>
        have hbx := HBX.out.1 ha
        obtain ⟨rfl, rfl⟩ := HB.out hbx
        clear ha hbx
        go_wp2
        go_ret2
        exact ⟨none, 0, rfl, fun i hi => by simp at hi, Nat.le_refl _, Nat.zero_le _, E1⟩
      have HA := Lib.hid ha
      clear ha
      go_wp2_with fail
      refine (rCount_any c _).mono ?_
      rintro e w2 ⟨rfl, hE⟩
      have c1 := hE.cell c1
      have c2 := hE.cell c2
      have c3 := hE.cell c3
      have E2 := E1.trans hE
      have HO2 := Lib.hid (HO1.out.ext hE)
      clear hE E1 HO1 z1
      have z1 := cell_lt c1
      dsimp only at z1
      cases ha : isNeg c
      case true =>
        have hbx := HBX.out.2.1 ha
        obtain ⟨rfl, rfl⟩ := HB.out hbx
        clear ha hbx
        go_wp2
        go_ret2
        exact ⟨none, 0, rfl, fun i hi => by simp at hi, Nat.le_refl _, Nat.zero_le _, E2⟩
      have HCC := Lib.hid ha
      clear ha
      go_wp2_with fail
      refine (rCount_any d _).mono ?_
      rintro e w3 ⟨rfl, hE⟩
      have c1 := hE.cell c1
      have c2 := hE.cell c2
      have c3 := hE.cell c3
      have E3 := E2.trans hE
      replace HO2 := Lib.hid (HO2.out.ext hE)
      clear hE E2 z1
      have z1 := cell_lt c1
      dsimp only at z1
      cases ha : isNeg d
      case true =>
        have hbx := HBX.out.2.2.1 ha
        obtain ⟨rfl, rfl⟩ := HB.out hbx
        clear ha hbx
        go_wp2
        go_ret2
        exact ⟨none, 0, rfl, fun i hi => by simp at hi, Nat.le_refl _, Nat.zero_le _, E3⟩
      have HDD := Lib.hid ha
      clear ha
      by_cases h9 : d = 0
      · have hbx := HBB.out h9
        obtain ⟨rfl, rfl⟩ := HB.out hbx
        have k9 : (d == 0) = true := by simp [h9]
        clear hbx
        go_wp2
        go_ret2
        exact ⟨none, 0, rfl, fun i hi => by simp at hi, Nat.le_refl _, Nat.zero_le _, E3⟩
      have k9 : (d == 0) = false := by simp [h9]
      have HG := Lib.hid (HBX.out.2.2.2 HA.out HCC.out HDD.out h9)
      obtain ⟨⟨b1, b2⟩, ⟨b3', b4⟩, ⟨b5, b6⟩, b7, b8, b9, bA⟩ := HFB.out HG.out
      rw [HFL.out] at b9 bA
      have HF := Lib.hid HFL.out
      obtain ⟨m, hm2⟩ : ∃ m, m = max 0 (c - a) := ⟨_, rfl⟩
      have hmb : 0 ≤ m ∧ m ≤ 1048576 := by omega
      rw [← hm2] at b7 b8 b9 bA HF
      have q0 : IntKind.i64.wrap (c - a) = c - a := IntWalk.i64_in _ (by omega)
      have q1 : IntKind.i64.wrap (m + d) = m + d := IntWalk.i64_in _ (by omega)
      have q2 : IntKind.i64.wrap (m + d - 1) = m + d - 1 := IntWalk.i64_in _ (by omega)
      obtain ⟨t, ht⟩ : ∃ t, t = (m + d - 1).tdiv d := ⟨_, rfl⟩
      rw [← ht] at b7 b8 b9 bA HF
      have q3 : IntKind.i64.wrap t = t := IntWalk.i64_in _ (by omega)
      have q4 : IntKind.i64.wrap (t * d) = t * d := IntWalk.i64_in _ (by omega)
      have q5 := ht.symm
      have HNN : Hid (n = l.length ∧ n ≤ 256) := ⟨HN.out, by omega⟩
      have HFX : Hid (fx = t * d) := HF.out
      clear b1 b2 b3' b4 ht HFL HFB
      clear HF
      have HF := HFX
      by_cases hca : 0 < c - a
      · have hcm : m = c - a := by omega
        subst hcm
        clear hm2 hmb
        go_wp2_with fail
        refine wp_region_heldE 99 (fun w' => w'.cell? ⟨b, off + k * 3, none⟩ = some (.int .i64 a) ∧ w'.cell? ⟨b, off + k * 3 + 1, none⟩ = some (.int .i64 c) ∧ w'.cell? ⟨b, off + k * 3 + 2, none⟩ = some (.int .i64 d)) (by kernel_rfl) ?_
        have ED : Ext w3 w3.drew := (Ext.refl _).drew
        have hS := show _ ∧ _ ∧ _ from ⟨ED.cell c1, ED.cell c2, ED.cell c3⟩
        clear c1 c2 c3
        replace E3 := E3.trans ED
        have HO3 := Lib.hid (HO2.out.ext ED)
        clear ED HO2
        generalize w3.drew = w4 at hS E3 HO3 ⊢
        obtain ⟨s0, s1, s2⟩ := hS
        have z1 := cell_lt s0
        dsimp only at z1
        have hS := show _ ∧ _ ∧ _ from ⟨s0, s1, s2⟩
        ((refine eTk 0 ?_); (refine eTk 1 ?_); (refine eTk 2 ?_); (refine eTk 3 ?_); (refine eTk 4 ?_); (refine eTk 5 ?_); (refine eTk 6 ?_); (refine eTk 7 ?_); (refine eTk 8 ?_); (refine eTk 9 ?_); (refine eTk 10 ?_))
        (refine wpAnyE_pure (v := .int .i64 (c - a)) (i := 11) (oi := ?_) ?_ (by kernel_rfl) ?_ ?_ ?_ ?_; rotate_left; (focus ((simp only [List.getElem?_toArray, List.getElem?_cons_succ, List.getElem?_cons_zero]; exact rfl))); (focus (exact fun _ _ _ h => h)); (focus (refine Or.inl ⟨by rfl, ?_⟩; intro w hSw; clear hSw; go_simp; omega)); (focus (first | exact (fun _ => by assumption) | (intro hlst; exact absurd hlst (by kernel_rfl)) | (intro hlst; cases hlst))); (try simp only [Act.put, List.setIfInBounds_toArray, List.set_cons_zero, List.set_cons_succ]))
        ((refine ePu 12 ?_))
        refine wpAnyE_done (by kernel_rfl) ?_ _
        go_wp2_with fail
        refine wp_region_heldE 99 (fun w' => w'.cell? ⟨b, off + k * 3, none⟩ = some (.int .i64 a) ∧ w'.cell? ⟨b, off + k * 3 + 1, none⟩ = some (.int .i64 c) ∧ w'.cell? ⟨b, off + k * 3 + 2, none⟩ = some (.int .i64 d)) (by kernel_rfl) ?_
        have ED : Ext w4 w4.drew := (Ext.refl _).drew
        replace hS := show _ ∧ _ ∧ _ from ⟨ED.cell s0, ED.cell s1, ED.cell s2⟩
        clear s0 s1 s2 z1
        replace E3 := E3.trans ED
        have HO2 := Lib.hid (HO3.out.ext ED)
        clear ED HO3
        generalize w4.drew = w5 at hS E3 HO2 ⊢
        obtain ⟨s0, s1, s2⟩ := hS
        have z1 := cell_lt s0
        dsimp only at z1
        have hS := show _ ∧ _ ∧ _ from ⟨s0, s1, s2⟩
        ((refine eTk 0 ?_); (refine eTk 1 ?_); (refine eTk 2 ?_); (refine eTk 3 ?_); (refine eTk 4 ?_); (refine eTk 5 ?_); (refine eTk 6 ?_); (refine eTk 7 ?_); (refine eTk 8 ?_); (refine eTk 9 ?_); (refine eTk 10 ?_); (refine eTk 11 ?_); (refine eTk 12 ?_); (refine eTk 13 ?_); (refine eTk 14 ?_); (refine eTk 15 ?_); (refine eTk 16 ?_); (refine eTk 17 ?_); (refine eTk 18 ?_); (refine eTk 19 ?_); (refine eTk 20 ?_))
        (refine wpAnyE_one (i := 21) (o := ?_) ?_ (by kernel_rfl) (fun K hK => ?_); rotate_left; (focus ((simp only [List.getElem?_toArray, List.getElem?_cons_succ, List.getElem?_cons_zero]; exact rfl))); go_simp; refine hK.out _ _ ?_ (fun hHeld => ?_); rotate_left; clear hK K; (try simp only [Act.put, List.setIfInBounds_toArray, List.set_cons_zero, List.set_cons_succ]))
        rotate_left
        · exact ⟨by go_simp, by go_simp, by go_simp⟩
        have c9 : (w5.alloc (.cells #[.int .i64 (t * d)] 3)).cell? ⟨w5.heap.size, 0, none⟩ = some (.int .i64 (t * d)) := by go_simp
        have EA : Ext w5 (w5.alloc (.cells #[.int .i64 (t * d)] 3)) := extA
        have E5 := E3.trans EA
        have HO3 := HO2.out.ext EA
        have HSA := hHeld
        obtain ⟨nb, hnb⟩ : ∃ nb, nb = w5.heap.size := ⟨_, rfl⟩
        rw [← hnb] at c9 ⊢
        clear s0 s1 s2 z1 hHeld
        generalize (w5.alloc (.cells #[.int .i64 (t * d)] 3)) = w6 at c9 HSA E5 HO3 ⊢
        obtain ⟨v', w7, hr, g1, g2, g3, g4⟩ := HO3.app1 (x := t * d) 1 c9 (by rw [List.length_take, List.length_map]; have := HNN.out; omega) (n := w.heap.size) E5.size HV.out
        have HR := Lib.hid hr
        have HLV7 : b < w.heap.size := HBL.out
        have hS7 := show _ ∧ _ ∧ _ from ⟨cellB g3 (p := ⟨b, _, none⟩) HLV7 HSA.1, cellB g3 (p := ⟨b, _, none⟩) HLV7 HSA.2.1, cellB g3 (p := ⟨b, _, none⟩) HLV7 HSA.2.2⟩
        clear hnb hr g4 HO3
        (refine wpAnyE_one (i := 22) (o := ?_) ?_ (by kernel_rfl) (fun K hK => ?_); rotate_left; (focus ((simp only [List.getElem?_toArray, List.getElem?_cons_succ, List.getElem?_cons_zero]; exact rfl))); refine step_app rfl _ _ 23 23 rfl u4 (.slice (some ⟨nb, 0, none⟩) 1 1) rfl rfl _ _ HR.out ?_; refine hK.out _ _ ?_ (fun hHeld => ?_); rotate_left; clear hK K; (try simp only [Act.put, List.setIfInBounds_toArray, List.set_cons_zero, List.set_cons_succ]))
        rotate_left
        · exact hS7
        ((refine ePu 23 ?_))
        refine wpAnyE_done (by kernel_rfl) ?_ _
        go_wp2
        refine ⟨⟨k + 1, by omega, by go_num, ?_, g2, HZZ.out HG.out, E5.trans' g3 (Nat.le_refl _)⟩, by simp [intOf]; omega⟩
        show OwnsI _ _ _
        rw [HX.out, HF.out]
        exact g1
      · have hcm : m = 0 := by omega
        subst hcm
        clear hm2 hmb
        simp only [Int.zero_add] at q1 q2 q5
        go_wp2_with fail
        refine wp_region_heldE 99 (fun w' => w'.cell? ⟨b, off + k * 3, none⟩ = some (.int .i64 a) ∧ w'.cell? ⟨b, off + k * 3 + 1, none⟩ = some (.int .i64 c) ∧ w'.cell? ⟨b, off + k * 3 + 2, none⟩ = some (.int .i64 d)) (by kernel_rfl) ?_
        have ED : Ext w3 w3.drew := (Ext.refl _).drew
        have hS := show _ ∧ _ ∧ _ from ⟨ED.cell c1, ED.cell c2, ED.cell c3⟩
        clear c1 c2 c3
        replace E3 := E3.trans ED
        have HO3 := Lib.hid (HO2.out.ext ED)
        clear ED HO2
        generalize w3.drew = w4 at hS E3 HO3 ⊢
        obtain ⟨s0, s1, s2⟩ := hS
        have z1 := cell_lt s0
        dsimp only at z1
        have hS := show _ ∧ _ ∧ _ from ⟨s0, s1, s2⟩
        ((refine eTk 0 ?_); (refine eTk 1 ?_); (refine eTk 2 ?_); (refine eTk 3 ?_); (refine eTk 4 ?_); (refine eTk 5 ?_); (refine eTk 6 ?_); (refine eTk 7 ?_); (refine eTk 8 ?_); (refine eTk 9 ?_); (refine eTk 10 ?_))
        (refine wpAnyE_pure (v := .int .i64 (0)) (i := 11) (oi := ?_) ?_ (by kernel_rfl) ?_ ?_ ?_ ?_; rotate_left; (focus ((simp only [List.getElem?_toArray, List.getElem?_cons_succ, List.getElem?_cons_zero]; exact rfl))); (focus (exact fun _ _ _ h => h)); (focus (refine Or.inl ⟨by rfl, ?_⟩; intro w hSw; clear hSw; go_simp; omega)); (focus (first | exact (fun _ => by assumption) | (intro hlst; exact absurd hlst (by kernel_rfl)) | (intro hlst; cases hlst))); (try simp only [Act.put, List.setIfInBounds_toArray, List.set_cons_zero, List.set_cons_succ]))
        ((refine ePu 12 ?_))
        refine wpAnyE_done (by kernel_rfl) ?_ _
        go_wp2_with fail
        refine wp_region_heldE 99 (fun w' => w'.cell? ⟨b, off + k * 3, none⟩ = some (.int .i64 a) ∧ w'.cell? ⟨b, off + k * 3 + 1, none⟩ = some (.int .i64 c) ∧ w'.cell? ⟨b, off + k * 3 + 2, none⟩ = some (.int .i64 d)) (by kernel_rfl) ?_
        have ED : Ext w4 w4.drew := (Ext.refl _).drew
        replace hS := show _ ∧ _ ∧ _ from ⟨ED.cell s0, ED.cell s1, ED.cell s2⟩
        clear s0 s1 s2 z1
        replace E3 := E3.trans ED
        have HO2 := Lib.hid (HO3.out.ext ED)
        clear ED HO3
        generalize w4.drew = w5 at hS E3 HO2 ⊢
        obtain ⟨s0, s1, s2⟩ := hS
        have z1 := cell_lt s0
        dsimp only at z1
        have hS := show _ ∧ _ ∧ _ from ⟨s0, s1, s2⟩
        ((refine eTk 0 ?_); (refine eTk 1 ?_); (refine eTk 2 ?_); (refine eTk 3 ?_); (refine eTk 4 ?_); (refine eTk 5 ?_); (refine eTk 6 ?_); (refine eTk 7 ?_); (refine eTk 8 ?_); (refine eTk 9 ?_); (refine eTk 10 ?_); (refine eTk 11 ?_); (refine eTk 12 ?_); (refine eTk 13 ?_); (refine eTk 14 ?_); (refine eTk 15 ?_); (refine eTk 16 ?_); (refine eTk 17 ?_); (refine eTk 18 ?_); (refine eTk 19 ?_); (refine eTk 20 ?_))
        (refine wpAnyE_one (i := 21) (o := ?_) ?_ (by kernel_rfl) (fun K hK => ?_); rotate_left; (focus ((simp only [List.getElem?_toArray, List.getElem?_cons_succ, List.getElem?_cons_zero]; exact rfl))); go_simp; refine hK.out _ _ ?_ (fun hHeld => ?_); rotate_left; clear hK K; (try simp only [Act.put, List.setIfInBounds_toArray, List.set_cons_zero, List.set_cons_succ]))
        rotate_left
        · exact ⟨by go_simp, by go_simp, by go_simp⟩
        have c9 : (w5.alloc (.cells #[.int .i64 (t * d)] 3)).cell? ⟨w5.heap.size, 0, none⟩ = some (.int .i64 (t * d)) := by go_simp
        have EA : Ext w5 (w5.alloc (.cells #[.int .i64 (t * d)] 3)) := extA
        have E5 := E3.trans EA
        have HO3 := HO2.out.ext EA
        have HSA := hHeld
        obtain ⟨nb, hnb⟩ : ∃ nb, nb = w5.heap.size := ⟨_, rfl⟩
        rw [← hnb] at c9 ⊢
        clear s0 s1 s2 z1 hHeld
        generalize (w5.alloc (.cells #[.int .i64 (t * d)] 3)) = w6 at c9 HSA E5 HO3 ⊢
        obtain ⟨v', w7, hr, g1, g2, g3, g4⟩ := HO3.app1 (x := t * d) 1 c9 (by rw [List.length_take, List.length_map]; have := HNN.out; omega) (n := w.heap.size) E5.size HV.out
        have HR := Lib.hid hr
        have HLV7 : b < w.heap.size := HBL.out
        have hS7 := show _ ∧ _ ∧ _ from ⟨cellB g3 (p := ⟨b, _, none⟩) HLV7 HSA.1, cellB g3 (p := ⟨b, _, none⟩) HLV7 HSA.2.1, cellB g3 (p := ⟨b, _, none⟩) HLV7 HSA.2.2⟩
        clear hnb hr g4 HO3
        (refine wpAnyE_one (i := 22) (o := ?_) ?_ (by kernel_rfl) (fun K hK => ?_); rotate_left; (focus ((simp only [List.getElem?_toArray, List.getElem?_cons_succ, List.getElem?_cons_zero]; exact rfl))); refine step_app rfl _ _ 23 23 rfl u4 (.slice (some ⟨nb, 0, none⟩) 1 1) rfl rfl _ _ HR.out ?_; refine hK.out _ _ ?_ (fun hHeld => ?_); rotate_left; clear hK K; (try simp only [Act.put, List.setIfInBounds_toArray, List.set_cons_zero, List.set_cons_succ]))
        rotate_left
        · exact hS7
        ((refine ePu 23 ?_))
        refine wpAnyE_done (by kernel_rfl) ?_ _
        go_wp2
        refine ⟨⟨k + 1, by omega, by go_num, ?_, g2, HZZ.out HG.out, E5.trans' g3 (Nat.le_refl _)⟩, by simp [intOf]; omega⟩
        show OwnsI _ _ _
        rw [HX.out, HF.out]
        exact g1
    · have hke : k = n := by omega
      subst hke
      have hlt' : ¬ (k : Int) < (k : Int) := by omega
      obtain ⟨rfl, rfl⟩ := HOK.out HZ.out
      obtain ⟨a, cp, hv, g1, g2, g3⟩ := HO.out.full
      rw [take_map_full HN.out] at hv g1 g2
      subst hv
      have HG := Lib.hid (show _ ∧ _ ∧ _ from ⟨g1, g2, g3⟩)
      clear g1 g2 g3 HO HV
      go_wp2
      go_ret2
      exact ⟨a, cp, rfl, HG.out.1, by simpa using HG.out.2.1, HG.out.2.2, he⟩
end Go.Proofs.YtmndcdjcodfchaaGreatDoor
namespace Go.Proofs.YtmndcdjcodfchaaGreatDoor
open Go.RowKit
theorem infoLvR : (Tryz.prog.info? 70).map (fun i => (i.zero, i.size, i.bytes)) = some (some (.agg #[.int .i64 0, .int .i64 0, .int .i64 0]), 3, 24) := by kernel_rfl
def flatL (l : List Lv) : Nat → List Value
  | 0 => []
  | k + 1 => flatL l k ++ [.int .i64 (l.getD k lv0).has, .int .i64 (l.getD k lv0).least, .int .i64 (l.getD k lv0).lot]
theorem flatL_len (l : List Lv) : ∀ k, (flatL l k).length = k * 3
  | 0 => rfl
  | k + 1 => by unfold flatL; rw [List.length_append, flatL_len l k]; simp only [List.length_cons, List.length_nil]; omega
theorem flatL_get (l : List Lv) : ∀ k i, i < k → (flatL l k)[i * 3]? = some (.int .i64 (l.getD i lv0).has) ∧ (flatL l k)[i * 3 + 1]? = some (.int .i64 (l.getD i lv0).least) ∧ (flatL l k)[i * 3 + 2]? = some (.int .i64 (l.getD i lv0).lot) := by
  intro k
  induction k with
  | zero => intro i hi; exact absurd hi (Nat.not_lt_zero i)
  | succ k ih =>
    intro i hi
    have hl := flatL_len l k
    unfold flatL
    rcases Nat.lt_or_eq_of_le (Nat.le_of_lt_succ hi) with h | rfl
    · obtain ⟨h1, h2, h3⟩ := ih i h
      rw [List.getElem?_append_left (by omega), List.getElem?_append_left (by omega), List.getElem?_append_left (by omega)]
      exact ⟨h1, h2, h3⟩
    · rw [List.getElem?_append_right (by omega), List.getElem?_append_right (by omega), List.getElem?_append_right (by omega), hl, Nat.sub_self, show i * 3 + 1 - i * 3 = 1 by omega, show i * 3 + 2 - i * 3 = 2 by omega]
      exact ⟨rfl, rfl, rfl⟩
def OwnsL (w : World) (v : Value) (l : List Lv) (k : Nat) : Prop := w.ownsRow 0 70 3 v k (flatL l k)
theorem OwnsL.lev {w : World} {v : Value} {l : List Lv} (h : OwnsL w v l l.length) : ∃ a cap, v = .slice a l.length cap ∧ LevAt w a l := by
  obtain ⟨a, cap, hv, _, h3⟩ := rowReads h
  refine ⟨a, cap, hv, fun i hi => ?_⟩
  obtain ⟨g1, g2, g3⟩ := flatL_get l l.length i hi
  obtain ⟨b, hb, _, c1, _⟩ := h3 _ _ g1
  obtain ⟨b', hb', _, c2, _⟩ := h3 _ _ g2
  obtain ⟨b'', hb'', _, c3, _⟩ := h3 _ _ g3
  rw [hb] at hb' hb''
  cases hb'; cases hb''
  exact ⟨b, 0, hb, by rw [Nat.zero_add]; exact c1, by rw [Nat.zero_add]; exact c2, by rw [Nat.zero_add]; exact c3⟩
set_option maxHeartbeats 8000000 in
set_option maxRecDepth 100000 in
theorem lawLevels_any {pks : List Pk} {need : List Int} {l : List Lv} {pa : Option Addr} {pc : Nat} {na : Option Addr} {nc : Nat} {la : Option Addr} {lc : Nat} {w : World} (ht : TaskG w pks need pa pc na nc) (hl : LevAt w la l) (hlm : l.length ≤ maxLen) (hGl : Glob w) :
    Calls Tryz.prog 7 #[taskV pks need pa pc na nc, .slice la l.length lc] w fun e w' => e = .returned (.bool true) ∧ Ext w w' := by
  have HSM := Lib.hid (fun W (hW : Ext w W) => small_any (ht.ext hW))
  have HAW := Lib.hid (fun W (hW : Ext w W) => awake_any W (hGl.ext hW))
  have HOF := Lib.hid (fun W (hW : Ext w W) h => Of_any (ht.ext hW) h)
  have HD1 := Lib.hid (fun W (hW : Ext w W) => Dear_any (ht.ext hW))
  have HD2 := Lib.hid (fun pa' pc' na' nc' W (h : TaskG W pks need pa' pc' na' nc') => rDear_any h)
  have HF1 := Lib.hid (fun W (hW : Ext w W) => Refill_any l la lc W (hl.ext hW) hlm)
  have HF2 := Lib.hid (fun la' lc' W (h : LevAt W la' l) => rRefill_any l la' lc' W h hlm)
  have HEQ : Hid (∀ (l : List Int) (a a' : Option Addr) (cap cap' : Nat) W, l.length ≤ maxLen → CellsI W a l → CellsI W a' l → Calls Tryz.prog 15 #[.slice a l.length cap, .slice a' l.length cap'] W fun e w' => e = .returned (.bool true) ∧ Ext W w') := fun l a a' cap cap' W h h1 h2 => by
    have := EqualI_any l l a a' cap cap' W h h1 h2
    rw [decide_eq_true rfl] at this
    exact this
  have hsm : smallB pks need = true → pks.length ≤ 100 := fun h => (smallB_of h).1
  have HLV := Lib.hid hl
  unfold maxLen at hlm
  unfold TaskP at HOF
  unfold SliceE at HD1 HD2 HF1 HF2
  unfold taskV at HSM HOF HD1 HD2 ⊢
  obtain ⟨N, hN⟩ : ∃ N, N = pks.length := ⟨_, rfl⟩
  obtain ⟨K, hK⟩ : ∃ K, K = need.length := ⟨_, rfl⟩
  obtain ⟨M, hM⟩ : ∃ M, M = l.length := ⟨_, rfl⟩
  rw [← hN, ← hK] at HSM HOF HD1 HD2
  rw [← hN, ← hK, ← hM]
  rw [← hM] at hlm HF1 HF2
  rw [← hN] at hsm
  have HM := Lib.hid hM
  generalize smallB pks need = sm at HSM hsm
  generalize dearL pks need = dl at HD1 HD2
  generalize checkS pks need = kr at HD1 HD2
  generalize refillL l = fl at HF1 HF2
  generalize refillE l = fr at HF1 HF2
  clear ht hl hGl hN hK hM
  have E0 : Ext w (w.alloc (.cells #[.slice pa N pc, .slice na K nc] 25)) := (Ext.refl _).alloc _
  have y1 : (w.alloc (.cells #[.slice pa N pc, .slice na K nc] 25)).cell? ⟨w.heap.size, 0, none⟩ = some (.slice pa N pc) := by go_simp
  have y2 : (w.alloc (.cells #[.slice pa N pc, .slice na K nc] 25)).cell? ⟨w.heap.size, 1, none⟩ = some (.slice na K nc) := by go_simp
  go_enter Tryz.func7, Tryz.ntmps7
  go_wp2_with fail
  refine (HSM.out _ E0).mono ?_
  rintro e w1 ⟨rfl, hE⟩
  have E1 := E0.trans hE
  have y1 := hE.cell y1
  have y2 := hE.cell y2
  have z := cell_lt y1
  dsimp only at z
  clear hE E0 HSM
  cases sm
  case false =>
    clear hsm
    go_wp2_with fail
    refine (HAW.out _ E1).mono ?_
    rintro e w2 ⟨rfl, hE⟩
    go_wp2
    go_ret
    exact ⟨rfl, E1.trans hE⟩
  have hN1 := hsm rfl
  clear hsm
  by_cases hM1 : 512 < M
  · have hM2 : (512 : Int) < (M : Int) := by omega
    go_wp2_with fail
    refine (HAW.out _ E1).mono ?_
    rintro e w2 ⟨rfl, hE⟩
    go_wp2
    go_ret
    exact ⟨rfl, E1.trans hE⟩
  have hM2 : ¬ (512 : Int) < (M : Int) := by omega
  go_wp2_with fail
  refine (HD1.out _ E1).mono ?_
  rintro e w2 ⟨ra, rc, rfl, hr, hrl, hrm, hE⟩
  have HRL := Lib.hid hr
  have HDM : Hid (dl.length ≤ maxLen) := Nat.le_trans hrl hrm
  have E2 := E1.trans hE
  have y1 := hE.cell y1
  have y2 := hE.cell y2
  have z := cell_lt y1
  dsimp only at z
  clear hE E1 HD1 hr hrl hrm
  go_wp2_with fail
  refine (HOF.out _ E2 hN1).mono ?_
  rintro e w3 ⟨pa1, pc1, na1, nc1, rfl, hT, hE⟩
  have E3 := E2.trans hE
  have HRL := Lib.hid (HRL.out.ext hE)
  have HX := Lib.hid (HD2.out _ _ _ _ _ hT)
  clear hE E2 hT HD2 HOF y1 y2 z
  go_wp2_with fail
  refine HX.out.mono ?_
  rintro e w4 ⟨sa, sc, rfl, hs, _, _, hE⟩
  have E4 := E3.trans hE
  have HRL := Lib.hid (HRL.out.ext hE)
  have HSL := Lib.hid hs
  clear hE E3 HX hs
  go_wp2
  go_loopw [9, 38] (fun v i wr => ∃ k : Nat, k ≤ M ∧ i = .int .i64 k ∧ Hid (OwnsL wr v l k) ∧ Hid (∀ b, v.ownBlock = some b → w4.heap.size ≤ b) ∧ Ext w4 wr) (fun _ i _ => M - (intOf i).toNat)
  case atStart => exact ⟨0, Nat.zero_le _, rfl, World.ownsRow_nil w4 0 _ _, fun b hb => (by cases hb), Ext.refl _⟩
  case round =>
    obtain ⟨k, hk, rfl, HO, HV, he⟩ := hrel
    generalize u9 = vv at HO HV ⊢
    by_cases hlt : k < M
    · have hlt' : (k : Int) < (M : Int) := by omega
      obtain ⟨b, off, rfl, c1, c2, c3⟩ := HLV.out.ext (E4.trans he) k (by rw [← HM.out]; exact hlt)
      have HFL : Hid (flatL l (k + 1) = flatL l k ++ [.int .i64 (l.getD k lv0).has, .int .i64 (l.getD k lv0).least, .int .i64 (l.getD k lv0).lot]) := rfl
      generalize (l.getD k lv0).has = p at c1 HFL
      generalize (l.getD k lv0).least = q at c2 HFL
      generalize (l.getD k lv0).lot = m at c3 HFL
      have zb := cell_lt c1
      dsimp only at zb
      have E3 : Ext wr ((wr.alloc (.cells #[.int .i64 p, .int .i64 q, .int .i64 m] 69)).alloc (.cells #[.int .i64 p, .int .i64 q, .int .i64 m] 70)) := extA
      have n0 : ((wr.alloc (.cells #[.int .i64 p, .int .i64 q, .int .i64 m] 69)).alloc (.cells #[.int .i64 p, .int .i64 q, .int .i64 m] 70)).cell? ⟨wr.heap.size + 1, 0, none⟩ = some (.int .i64 p) := by go_simp
      have n1 : ((wr.alloc (.cells #[.int .i64 p, .int .i64 q, .int .i64 m] 69)).alloc (.cells #[.int .i64 p, .int .i64 q, .int .i64 m] 70)).cell? ⟨wr.heap.size + 1, 1, none⟩ = some (.int .i64 q) := by go_simp
      have n2 : ((wr.alloc (.cells #[.int .i64 p, .int .i64 q, .int .i64 m] 69)).alloc (.cells #[.int .i64 p, .int .i64 q, .int .i64 m] 70)).cell? ⟨wr.heap.size + 1, 2, none⟩ = some (.int .i64 m) := by go_simp
      obtain ⟨i0, hi, hi0, hi1, hi2⟩ := info_parts infoLvR
      have HNW := Lib.hid (news3 n0 n1 n2)
      have HE3 := Lib.hid E3
      clear n0 n1 n2 E3
      go_wp2_with (at_builtin; refine wpList_append1 _ rfl _ _ 67 rfl 70 i0 (.agg #[.int .i64 0, .int .i64 0, .int .i64 0]) 3 24 Tryz.underlying67 hi hi0 hi1 hi2 rfl (by decide) vv k (flatL l k) rfl (rowExt HO.out HE3.out) ⟨wr.heap.size + 1, 0, none⟩ 1 1 (by decide) [.int .i64 p, .int .i64 q, .int .i64 m] rfl rfl HNW.out (by intro u hu; simp at hu; rcases hu with rfl | rfl | rfl <;> rfl) (by unfold maxLen; omega) (by omega) ?_)
      intro v' w9 hown9 hend9
      have hv3 : w4.heap.size ≤ ((wr.alloc (.cells #[.int .i64 p, .int .i64 q, .int .i64 m] 69)).alloc (.cells #[.int .i64 p, .int .i64 q, .int .i64 m] 70)).heap.size := (he.trans HE3.out).size
      have B9 : Ext w4 w9 := (he.trans HE3.out).trans' (hend9.below (n := w4.heap.size) hv3 HV.out) (Nat.le_refl _)
      have OB9 : Hid (∀ b, v'.ownBlock = some b → w4.heap.size ≤ b) := hend9.ge (n := w4.heap.size) hv3 HV.out
      have O9 : Hid (OwnsL w9 v' l (k + 1)) := by
        show World.ownsRow _ _ _ _ _ _ _
        rw [HFL.out]
        exact hown9
      clear hown9 hend9 hi hi0 hi1 hi2 i0 c1 c2 c3
      go_wp2
      exact ⟨⟨k + 1, by omega, by go_num, O9.out, OB9.out, B9⟩, by simp [intOf]; omega⟩
    · have hke : k = M := by omega
      subst hke
      have hlt' : ¬ (k : Int) < (k : Int) := by omega
      obtain ⟨ra2, rc2, hv, hL⟩ := OwnsL.lev (w := wr) (v := vv) (l := l) (by rw [← HM.out]; exact HO.out)
      rw [← HM.out] at hv
      subst hv
      have E5 := E4.trans he
      have HRL := Lib.hid (HRL.out.ext he)
      have HSL := Lib.hid (HSL.out.ext he)
      have HLL := Lib.hid hL
      clear hL HO HV he E4
      go_wp2_with fail
      refine (HF1.out _ E5).mono ?_
      rintro e w6 ⟨fa, fc, rfl, hf, hf1, hf2, hE⟩
      have E6 := E5.trans hE
      have HRL := Lib.hid (HRL.out.ext hE)
      have HSL := Lib.hid (HSL.out.ext hE)
      have HX := Lib.hid (HF2.out _ rc2 _ (HLL.out.ext hE))
      have HFA := Lib.hid hf
      have HFM : Hid (fl.length ≤ maxLen) := Nat.le_trans hf1 hf2
      clear hE E5 hf hf1 hf2 HF1 HF2 HLL
      go_wp2_with fail
      refine HX.out.mono ?_
      rintro e w7 ⟨ga, gc, rfl, hg, _, _, hE⟩
      have E7 := E6.trans hE
      have HRL := Lib.hid (HRL.out.ext hE)
      have HSL := Lib.hid (HSL.out.ext hE)
      have HFA := Lib.hid (HFA.out.ext hE)
      have HGA := Lib.hid hg
      clear hE E6 hg HX
      go_wp2_with fail
      refine (HEQ.out dl ra sa rc sc _ HDM.out HRL.out HSL.out).mono ?_
      rintro e w8 ⟨rfl, hE⟩
      have E8 := E7.trans hE
      have HFA := Lib.hid (HFA.out.ext hE)
      have HGA := Lib.hid (HGA.out.ext hE)
      clear hE E7 HRL HSL
      go_wp2_with fail
      refine (HEQ.out fl fa ga fc gc _ HFM.out HFA.out HGA.out).mono ?_
      rintro e w9 ⟨rfl, hE⟩
      have E9 := E8.trans hE
      clear hE E8
      go_wp2_with fail
      refine (HAW.out _ E9).mono ?_
      rintro e w10 ⟨rfl, hE⟩
      go_wp2
      go_ret
      exact ⟨rfl, E9.trans hE⟩
end Go.Proofs.YtmndcdjcodfchaaGreatDoor
