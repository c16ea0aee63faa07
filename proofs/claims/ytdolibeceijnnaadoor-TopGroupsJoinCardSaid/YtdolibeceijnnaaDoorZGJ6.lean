/- Steps of the proof: QParts, QAwakeS, QAwake, GCase. No conditions. -/
import Derived.Test.YtdolibeceijnnaaDoorZGJ1
import Derived.Test.YtdolibeceijnnaaDoorZGJ2
import Derived.Test.YtdolibeceijnnaaDoorZGJ3
import Derived.Test.YtdolibeceijnnaaDoorZGJ4
import Derived.Test.YtdolibeceijnnaaDoorZGJ5
namespace Go.Proofs.YtdolibeceijnnaaDoor
open Go.RowKit
set_option maxHeartbeats 8000000 in
set_option maxRecDepth 100000 in
theorem Parts_ok (N : Nat) (l : List Stp) (b off cap : Nat) (w : World) (hl : l.length ≤ maxLen) (hc : CellsP w (some ⟨b, off, none⟩) l) (hcap : l.length ≤ cap) (_hcm : cap ≤ maxLen) (hk : ckSeq ((N : Int), l) = 0) :
    Calls Tryd.prog 24 #[.agg #[.int .i64 (N : Int), .slice (some ⟨b, off, none⟩) l.length cap]] w (SeqsPost (partsOf ((N : Int), l)) 0 w) := by
  have HC := Lib.hid hc
  have HL := Lib.hid hl
  obtain ⟨hN1, hN6, hl0, hl64, hwk, _, _⟩ := ckSeq_zero hk
  have HFI := Lib.hid (ckWalk_fine hwk)
  have HCK := Lib.hid hk
  obtain ⟨R, hR⟩ : ∃ R, R = partsOf ((N : Int), l) := ⟨_, rfl⟩
  rw [← hR]
  have HR : Hid (R = partsK ((N : Int), l) (pauses ((N : Int), l)).length) := hR
  obtain ⟨i0, hi, hi0, hi1, hi2⟩ := info_parts infoSeq
  unfold maxLen at _hcm
  clear hc hl hk hwk hR
  go_enter Tryd.func24, Tryd.ntmps24
  go_wp2_with fail
  have E1 : Ext w (w.alloc (.cells #[.int .i64 (N : Int), .slice (some ⟨b, off, none⟩) l.length cap] 24)) := extA
  have c0 : (w.alloc (.cells #[.int .i64 (N : Int), .slice (some ⟨b, off, none⟩) l.length cap] 24)).cell? ⟨w.heap.size, 0, none⟩ = some (.int .i64 (N : Int)) := by go_simp
  have c1 : (w.alloc (.cells #[.int .i64 (N : Int), .slice (some ⟨b, off, none⟩) l.length cap] 24)).cell? ⟨w.heap.size, 1, none⟩ = some (.slice (some ⟨b, off, none⟩) l.length cap) := by go_simp
  generalize w.alloc (.cells #[.int .i64 (N : Int), .slice (some ⟨b, off, none⟩) l.length cap] 24) = W at E1 c0 c1 ⊢
  refine (Pauses_any (N : Int) l _ cap _ HL.out (HC.out.ext E1)).mono ?_
  rintro e w1 ⟨pa, pc, rfl, hp1, hp2, hE⟩
  rw [if_pos HCK.out] at hp1 hp2 ⊢
  rw [HCK.out]
  have E2 := E1.trans hE
  have c0 := hE.cell c0
  have c1 := hE.cell c1
  have HASC := Lib.hid (fun k h => pauses_lt (s := ((N : Int), l)) (k := k) h)
  have HIN := Lib.hid (fun k h => pauses_in (s := ((N : Int), l)) (k := k) h)
  have hple := pauses_le ((N : Int), l)
  have HPA : Hid (∀ k, partAt ((N : Int), l) k = partOf (N : Int) ((l.take (endOf ((N : Int), l) (pauses ((N : Int), l)) k)).drop ((pauses ((N : Int), l)).getD k 0).toNat)) := fun k => rfl
  have HEN : Hid (∀ k, endOf ((N : Int), l) (pauses ((N : Int), l)) k = if k + 1 < (pauses ((N : Int), l)).length then ((pauses ((N : Int), l)).getD (k + 1) 0).toNat else l.length) := fun k => rfl
  dsimp only at hple HIN
  generalize pauses ((N : Int), l) = P at hp1 hp2 HASC HIN hple HPA HEN HR ⊢
  have HP := Lib.hid hp1
  have hpl64 : P.length ≤ 64 := by omega
  clear hE E1 hp1 hp2
  have zw : w.heap.size < w1.heap.size := cell_lt c0
  go_wp2
  go_loopw [20, 6] (fun i v wr => ∃ k : Nat, k ≤ P.length ∧ i = .int .i64 k ∧ (∃ vv, v = vv ∧ Hid (OwnsQ wr vv (partsK ((N : Int), l) k) ∧ ∀ b, vv.ownBlock = some b → w1.heap.size ≤ b)) ∧ Ext w1 wr) (fun i _ _ => P.length - (intOf i).toNat)
  case atStart => exact ⟨0, Nat.zero_le _, rfl, ⟨_, rfl, OwnsQ.nil _, fun b hb => by cases hb⟩, Ext.refl _⟩
  case round =>
    obtain ⟨k, hkl, rfl, ⟨vv, hvv, hO⟩, he⟩ := hrel
    obtain rfl := hvv.symm
    have d0 := he.cell c0
    have d1 := he.cell c1
    have E3 := E2.trans he
    by_cases hlt : k < P.length
    · obtain ⟨pb, po, rfl, q1⟩ := HP.out k hlt
      have q1 := he.cell q1
      obtain ⟨x0, x1⟩ := HIN.out k hlt
      have hen := HEN.out k
      have HMS := Lib.hid (partsK_succ ((N : Int), l) k)
      have hpk := Lib.hid (partsK_len ((N : Int), l) k)
      rw [HPA.out k] at HMS
      have hP1 : k + 1 < P.length → P.getD k 0 < P.getD (k + 1) 0 ∧ P.getD (k + 1) 0 < (l.length : Int) := fun h => ⟨HASC.out k h, (HIN.out (k + 1) h).2⟩
      have hq2 : k + 1 < P.length → wr.cell? ⟨pb, po + (k + 1), none⟩ = some (.int .i64 (P.getD (k + 1) 0)) := fun h => by
        obtain ⟨pb', po', e, q2⟩ := HP.out (k + 1) h
        cases e
        exact he.cell q2
      generalize endOf ((N : Int), l) P k = en at hen HMS
      generalize P.getD k 0 = x at q1 x0 x1 HMS hP1
      generalize P.getD (k + 1) 0 = z at hen hP1 hq2
      obtain ⟨xn, rfl⟩ := Int.eq_ofNat_of_zero_le x0
      have z9 := cell_lt q1
      dsimp only at z9
      have hw1 : IntKind.i64.wrap ((k : Int) + 1) = (k : Int) + 1 := IntWalk.i64_in _ (by omega)
      by_cases h1 : k + 1 < P.length
      · have q2 := hq2 h1
        obtain ⟨hz1, hz2⟩ := hP1 h1
        obtain ⟨zn, rfl⟩ := Int.eq_ofNat_of_zero_le (show 0 ≤ z by omega)
        rw [if_pos h1] at hen
        have hen2 : en = zn := by rw [hen]; rfl
        subst hen2
        have hlt1 : (k : Int) + 1 < (P.length : Int) := by omega
        have hlt2 : (0 : Int) ≤ (k : Int) + 1 := by omega
        have hlt3 : ((k : Int) + 1).toNat = k + 1 := by omega
        clear hen hP1 hq2
        go_wp2
        refine wp_region_heldE 99 (fun w' => w'.cell? ⟨w.heap.size, 0, none⟩ = some (.int .i64 (N : Int)) ∧ w'.cell? ⟨w.heap.size, 1, none⟩ = some (.slice (some ⟨b, off, none⟩) l.length cap)) (by kernel_rfl) ?_
        have ED : Ext wr wr.drew := extA
        have E4 := E3.trans ED
        have F4 := he.trans ED
        have hS : wr.drew.cell? ⟨w.heap.size, 0, none⟩ = some (.int .i64 (N : Int)) ∧ wr.drew.cell? ⟨w.heap.size, 1, none⟩ = some (.slice (some ⟨b, off, none⟩) l.length cap) := ⟨ED.cell d0, ED.cell d1⟩
        have HO4 := Lib.hid (hO.out.1.ext ED)
        have HOB := Lib.hid hO.out.2
        clear hO d0 d1 q1
        generalize wr.drew = W4 at E4 F4 hS HO4 ⊢
        clear ED
        have hk1 : xn ≤ en := by omega
        have hk2 : en ≤ cap := by omega
        have hk3 : xn ≤ cap := by omega
        have hcapk : ¬ cap = xn := by omega
        ((refine eTk 0 ?_); (refine eTk 1 ?_); (refine eTk 2 ?_); (refine eTk 3 ?_); (refine eTk 4 ?_); (refine eTk 5 ?_); (refine eTk 6 ?_); (refine eTk 7 ?_))
        clear hk1 hk2 hk3 hcapk
        have hsl : ((l.take en).drop xn).length = en - xn := by rw [List.length_drop, List.length_take]; omega
        have HAL := Lib.hid (alone_any N ((l.take en).drop xn) (some ⟨b, off + xn * 2, none⟩) (cap - xn) W4 (by omega) (by omega) (HFI.out.part en xn) (((HC.out.ext E4).take en).drop xn))
        rw [hsl] at HAL
        have HMS2 : Hid (partsK ((N : Int), l) (k + 1) = partsK ((N : Int), l) k ++ [partOf (N : Int) ((l.take en).drop xn)]) := HMS.out
        generalize partOf (N : Int) ((l.take en).drop xn) = y at HAL HMS2
        obtain ⟨y1, y2⟩ := y
        clear hsl HMS
        (refine wpAnyE_one (i := 8) (o := ?_) ?_ (by kernel_rfl) (fun K hK => ?_); rotate_left; (focus ((simp only [List.getElem?_toArray, List.getElem?_cons_succ, List.getElem?_cons_zero]; exact rfl))); go_simp; refine HAL.out.mono ?_; rintro e w5 hpo; obtain ⟨u, rfl, hqu, hE5⟩ := hpo.qu; dsimp only at hqu; have HQU := Lib.hid hqu; obtain ⟨ua, uc, rfl, _, _⟩ := hqu.1.reads; clear hqu hpo; go_wp2_with fail; refine hK.out _ _ ?_ (fun hHeld => ?_); rotate_left; clear hK K; (try simp only [Act.put, List.setIfInBounds_toArray, List.set_cons_zero, List.set_cons_succ]))
        rotate_left
        · exact ⟨hE5.cell hS.1, hE5.cell hS.2⟩
        clear hHeld HAL
        have E6 : Ext w5 (w5.alloc (.cells #[.int .i64 y1, .slice ua y2.length uc] 24)) := extA
        (refine wpAnyE_one (i := 9) (o := ?_) ?_ (by kernel_rfl) (fun K hK => ?_); rotate_left; (focus ((simp only [List.getElem?_toArray, List.getElem?_cons_succ, List.getElem?_cons_zero]; exact rfl))); go_simp; refine hK.out _ _ ?_ (fun hHeld => ?_); rotate_left; clear hK K; (try simp only [Act.put, List.setIfInBounds_toArray, List.set_cons_zero, List.set_cons_succ]))
        rotate_left
        · exact ⟨E6.cell (hE5.cell hS.1), E6.cell (hE5.cell hS.2)⟩
        have F6 := (F4.trans hE5).trans E6
        have ho6 := (HO4.out.ext hE5).ext E6
        have HO6 := Lib.hid ho6
        have HU6 : Hid (QU (fun b => vv.ownBlock = some b) (w5.alloc (.cells #[.int .i64 y1, .slice ua y2.length uc] 24)) (.slice ua y2.length uc) y2) := (HQU.out.mono (fun b hb => by
          obtain ⟨ps, _, h2, _⟩ := HO4.out
          exact rowLt h2 hb)).chg (Chg.ext E6)
        clear ho6 HO4 HQU
        refine wpAnyE_one (i := 10) (o := ?_) ?_ (by kernel_rfl) (fun K hK => ?_)
        rotate_left
        · simp only [List.getElem?_toArray, List.getElem?_cons_succ, List.getElem?_cons_zero]; exact rfl
        refine step_append1 rfl _ _ 34 rfl 24 i0 (.agg #[.int .i64 0, .slice none 0 0]) 2 32 Tryd.underlying34 hi hi0 hi1 hi2 rfl (by decide) vv (partsK ((N : Int), l) k).length _ rfl (Classical.choose_spec HO6.out).2.1 ⟨w5.heap.size, 0, none⟩ 1 1 (by decide) [.int .i64 y1, .slice ua y2.length uc] rfl rfl (cells_one _ _ _) (by intro u hu; simp at hu; rcases hu with rfl | rfl <;> rfl) (by rw [hpk.out]; unfold maxLen; omega) (by rw [hpk.out]; omega) (fun v' w7 hown7 hend7 => ?_)
        have O7 : Hid (OwnsQ w7 v' (partsK ((N : Int), l) (k + 1))) := by
          show OwnsQ _ _ _
          rw [HMS2.out]
          exact HO6.out.app (y := (y1, y2)) HU6.out hown7 hend7
        have B7 : Below w1.heap.size (w5.alloc (.cells #[.int .i64 y1, .slice ua y2.length uc] 24)) w7 := hend7.below (n := w1.heap.size) F6.size HOB.out
        have V7 : Hid (∀ b, v'.ownBlock = some b → w1.heap.size ≤ b) := hend7.ge (n := w1.heap.size) F6.size HOB.out
        have F7 : Ext w1 w7 := F6.trans' B7 (Nat.le_refl _)
        refine hK.out _ _ ⟨F7.cell c0, F7.cell c1⟩ (fun hHeld => ?_)
        clear hK K hown7 hend7 HO6 HU6 HMS2 B7 F6
        simp only [Act.put, List.setIfInBounds_toArray, List.set_cons_zero, List.set_cons_succ]
        (refine eTk 11 ?_)
        refine wpAnyE_done (by kernel_rfl) ?_ _
        go_wp2
        refine ⟨⟨k + 1, by omega, by go_num, ⟨v', rfl, O7.out, V7.out⟩, F7⟩, by simp [intOf]; omega⟩
      · rw [if_neg h1] at hen
        subst hen
        have hlt1 : ¬ ((k : Int) + 1 < (P.length : Int)) := by omega
        clear hP1 hq2
        go_wp2
        refine wp_region_heldE 99 (fun w' => w'.cell? ⟨w.heap.size, 0, none⟩ = some (.int .i64 (N : Int)) ∧ w'.cell? ⟨w.heap.size, 1, none⟩ = some (.slice (some ⟨b, off, none⟩) l.length cap)) (by kernel_rfl) ?_
        have ED : Ext wr wr.drew := extA
        have E4 := E3.trans ED
        have F4 := he.trans ED
        have hS : wr.drew.cell? ⟨w.heap.size, 0, none⟩ = some (.int .i64 (N : Int)) ∧ wr.drew.cell? ⟨w.heap.size, 1, none⟩ = some (.slice (some ⟨b, off, none⟩) l.length cap) := ⟨ED.cell d0, ED.cell d1⟩
        have HO4 := Lib.hid (hO.out.1.ext ED)
        have HOB := Lib.hid hO.out.2
        clear hO d0 d1 q1
        generalize wr.drew = W4 at E4 F4 hS HO4 ⊢
        clear ED
        have hk1 : xn ≤ l.length := by omega
        have hk2 : l.length ≤ cap := by omega
        have hk3 : xn ≤ cap := by omega
        have hcapk : ¬ cap = xn := by omega
        ((refine eTk 0 ?_); (refine eTk 1 ?_); (refine eTk 2 ?_); (refine eTk 3 ?_); (refine eTk 4 ?_); (refine eTk 5 ?_); (refine eTk 6 ?_); (refine eTk 7 ?_))
        clear hk1 hk2 hk3 hcapk
        have hsl : ((l.take l.length).drop xn).length = l.length - xn := by rw [List.length_drop, List.length_take]; omega
        have HAL := Lib.hid (alone_any N ((l.take l.length).drop xn) (some ⟨b, off + xn * 2, none⟩) (cap - xn) W4 (by omega) (by omega) (HFI.out.part l.length xn) (((HC.out.ext E4).take l.length).drop xn))
        rw [hsl] at HAL
        have HMS2 : Hid (partsK ((N : Int), l) (k + 1) = partsK ((N : Int), l) k ++ [partOf (N : Int) ((l.take l.length).drop xn)]) := HMS.out
        generalize partOf (N : Int) ((l.take l.length).drop xn) = y at HAL HMS2
        obtain ⟨y1, y2⟩ := y
        clear hsl HMS
        (refine wpAnyE_one (i := 8) (o := ?_) ?_ (by kernel_rfl) (fun K hK => ?_); rotate_left; (focus ((simp only [List.getElem?_toArray, List.getElem?_cons_succ, List.getElem?_cons_zero]; exact rfl))); go_simp; refine HAL.out.mono ?_; rintro e w5 hpo; obtain ⟨u, rfl, hqu, hE5⟩ := hpo.qu; dsimp only at hqu; have HQU := Lib.hid hqu; obtain ⟨ua, uc, rfl, _, _⟩ := hqu.1.reads; clear hqu hpo; go_wp2_with fail; refine hK.out _ _ ?_ (fun hHeld => ?_); rotate_left; clear hK K; (try simp only [Act.put, List.setIfInBounds_toArray, List.set_cons_zero, List.set_cons_succ]))
        rotate_left
        · exact ⟨hE5.cell hS.1, hE5.cell hS.2⟩
        clear hHeld HAL
        have E6 : Ext w5 (w5.alloc (.cells #[.int .i64 y1, .slice ua y2.length uc] 24)) := extA
        (refine wpAnyE_one (i := 9) (o := ?_) ?_ (by kernel_rfl) (fun K hK => ?_); rotate_left; (focus ((simp only [List.getElem?_toArray, List.getElem?_cons_succ, List.getElem?_cons_zero]; exact rfl))); go_simp; refine hK.out _ _ ?_ (fun hHeld => ?_); rotate_left; clear hK K; (try simp only [Act.put, List.setIfInBounds_toArray, List.set_cons_zero, List.set_cons_succ]))
        rotate_left
        · exact ⟨E6.cell (hE5.cell hS.1), E6.cell (hE5.cell hS.2)⟩
        have F6 := (F4.trans hE5).trans E6
        have ho6 := (HO4.out.ext hE5).ext E6
        have HO6 := Lib.hid ho6
        have HU6 : Hid (QU (fun b => vv.ownBlock = some b) (w5.alloc (.cells #[.int .i64 y1, .slice ua y2.length uc] 24)) (.slice ua y2.length uc) y2) := (HQU.out.mono (fun b hb => by
          obtain ⟨ps, _, h2, _⟩ := HO4.out
          exact rowLt h2 hb)).chg (Chg.ext E6)
        clear ho6 HO4 HQU
        refine wpAnyE_one (i := 10) (o := ?_) ?_ (by kernel_rfl) (fun K hK => ?_)
        rotate_left
        · simp only [List.getElem?_toArray, List.getElem?_cons_succ, List.getElem?_cons_zero]; exact rfl
        refine step_append1 rfl _ _ 34 rfl 24 i0 (.agg #[.int .i64 0, .slice none 0 0]) 2 32 Tryd.underlying34 hi hi0 hi1 hi2 rfl (by decide) vv (partsK ((N : Int), l) k).length _ rfl (Classical.choose_spec HO6.out).2.1 ⟨w5.heap.size, 0, none⟩ 1 1 (by decide) [.int .i64 y1, .slice ua y2.length uc] rfl rfl (cells_one _ _ _) (by intro u hu; simp at hu; rcases hu with rfl | rfl <;> rfl) (by rw [hpk.out]; unfold maxLen; omega) (by rw [hpk.out]; omega) (fun v' w7 hown7 hend7 => ?_)
        have O7 : Hid (OwnsQ w7 v' (partsK ((N : Int), l) (k + 1))) := by
          show OwnsQ _ _ _
          rw [HMS2.out]
          exact HO6.out.app (y := (y1, y2)) HU6.out hown7 hend7
        have B7 : Below w1.heap.size (w5.alloc (.cells #[.int .i64 y1, .slice ua y2.length uc] 24)) w7 := hend7.below (n := w1.heap.size) F6.size HOB.out
        have V7 : Hid (∀ b, v'.ownBlock = some b → w1.heap.size ≤ b) := hend7.ge (n := w1.heap.size) F6.size HOB.out
        have F7 : Ext w1 w7 := F6.trans' B7 (Nat.le_refl _)
        refine hK.out _ _ ⟨F7.cell c0, F7.cell c1⟩ (fun hHeld => ?_)
        clear hK K hown7 hend7 HO6 HU6 HMS2 B7 F6
        simp only [Act.put, List.setIfInBounds_toArray, List.set_cons_zero, List.set_cons_succ]
        (refine eTk 11 ?_)
        refine wpAnyE_done (by kernel_rfl) ?_ _
        go_wp2
        refine ⟨⟨k + 1, by omega, by go_num, ⟨v', rfl, O7.out, V7.out⟩, F7⟩, by simp [intOf]; omega⟩
    · have hke : k = P.length := by omega
      subst hke
      obtain ⟨ra, rc, hrv, hrc, hrl⟩ := hO.out.1.reads
      rw [← HR.out] at hrv hrc hrl
      have HRC := Lib.hid hrc
      subst hrv
      clear hrc hO
      go_wp2
      go_ret2
      exact ⟨ra, rc, rfl, HRC.out, hrl, E3⟩
set_option maxHeartbeats 4000000 in
theorem Parts_any (n : Int) (l : List Stp) (a : Option Addr) (cap : Nat) (w : World) (hl : l.length ≤ maxLen) (hc : CellsP w a l) (hr : Room a l.length cap) :
    Calls Tryd.prog 24 #[.agg #[.int .i64 n, .slice a l.length cap]] w (SeqsPost (if ckSeq (n, l) = 0 then partsOf (n, l) else []) (ckSeq (n, l)) w) := by
  by_cases hk : ckSeq (n, l) = 0
  · obtain ⟨hN1, hN6, hl0, _⟩ := ckSeq_zero hk
    obtain ⟨N, rfl⟩ := Int.eq_ofNat_of_zero_le (show 0 ≤ n by omega)
    obtain ⟨h1, h2, h3⟩ := hr
    obtain ⟨b, off, rfl⟩ := h3 hl0
    rw [if_pos hk, hk]
    exact Parts_ok N l b off cap w hl hc h1 h2 hk
  · rw [if_neg hk]
    have HC := Lib.hid hc
    have HL := Lib.hid hl
    clear hc hl
    have hk' : (ckSeq (n, l) != 0) = true := by simp [hk]
    have HPZ := Lib.hid (fun W h => Pauses_any n l a cap W HL.out h)
    rw [if_neg hk] at HPZ
    clear hk
    generalize ckSeq (n, l) = x at hk' HPZ ⊢
    go_enter Tryd.func24, Tryd.ntmps24
    go_wp2_with fail
    have E1 : Ext w (w.alloc (.cells #[.int .i64 n, .slice a l.length cap] 24)) := extA
    refine (HPZ.out _ (HC.out.ext E1)).mono ?_
    rintro e w1 ⟨pa, pc, rfl, _, _, hE⟩
    go_wp2
    go_ret2
    exact ⟨none, 0, rfl, CellsQ.nil _ _, by simp, E1.trans hE⟩
end Go.Proofs.YtdolibeceijnnaaDoor
namespace Go.Proofs.YtdolibeceijnnaaDoor
open Go.RowKit
def qb : Sq := (2, [([(0, true)], 0), ([(1, true)], 0), ([(1, false)], 0), ([(0, false)], 0)])
def qf : Sq := (1, [([(0, true)], 0), ([(0, false)], 0)])
def QPost (q : Sq) (w : World) (e : Ending) (w' : World) : Prop := ∃ a cap, e = .returned (.tuple #[.agg #[.int .i64 q.1, .slice a q.2.length cap], .int .i64 0]) ∧ CellsP w' a q.2 ∧ Ext w w'
theorem SeqErr.q {s q : Sq} {er : Int} {w : World} {e : Ending} {w' : World} (h : SeqErr s er w e w') (hs : s = q) (he : er = 0) : QPost q w e w' := by
  subst hs
  subst he
  obtain ⟨v, rfl, ⟨u, rfl, a, cap, rfl, hc, _⟩, hE⟩ := h
  exact ⟨a, cap, rfl, hc, hE⟩
theorem aw_Equal (l : List Int) (hl : l.length ≤ maxLen) (a b : Option Addr) (ca cb : Nat) (w : World) (hc : CellsI w a l) (hd : CellsI w b l) : Calls Tryd.prog 16 #[.slice a l.length ca, .slice b l.length cb] w fun r w' => r = .returned (.bool true) ∧ Ext w w' :=
  (EqualInt_any l l a b ca cb w hl hc hl hd).mono fun e w' h => ⟨by rw [h.1]; simp, h.2⟩
end Go.Proofs.YtdolibeceijnnaaDoor
namespace Go.Proofs.YtdolibeceijnnaaDoor
open Go.RowKit
theorem cellsI_two {w : World} {b : Nat} {x y : Int} (h : w.cell? ⟨b, 0, none⟩ = some (.int .i64 x)) (k : w.cell? ⟨b, 1, none⟩ = some (.int .i64 y)) : CellsI w (some ⟨b, 0, none⟩) [x, y] := fun i hi => by
  have : i = 0 ∨ i = 1 := by simp at hi; omega
  rcases this with rfl | rfl
  · exact ⟨b, 0, rfl, by simpa using h⟩
  · exact ⟨b, 0, rfl, by simpa using k⟩
end Go.Proofs.YtdolibeceijnnaaDoor
namespace Go.Proofs.YtdolibeceijnnaaDoor
open Go.RowKit
set_option maxHeartbeats 4000000 in
theorem caseParsed_any (s : ByteArray) (q : Sq) (w : World) (h : sqL s.toList = some q) :
    Calls Tryd.prog 27 #[.string s] w (RmPost q w) := by
  go_enter Tryd.func27, Tryd.ntmps27
  go_wp2_with fail
  have E1 : Ext w (w.alloc (.cells #[.int .i64 0, .slice none 0 0] 24)) := extA
  have c0 : (w.alloc (.cells #[.int .i64 0, .slice none 0 0] 24)).cell? ⟨w.heap.size, 0, none⟩ = some (.int .i64 0) := by go_simp
  have c1 : (w.alloc (.cells #[.int .i64 0, .slice none 0 0] 24)).cell? ⟨w.heap.size, 1, none⟩ = some (.slice none 0 0) := by go_simp
  have f0 : (w.alloc (.cells #[.int .i64 0, .slice none 0 0] 24)).frozen? ⟨w.heap.size, 0, none⟩ = false := by go_simp
  have f1 : (w.alloc (.cells #[.int .i64 0, .slice none 0 0] 24)).frozen? ⟨w.heap.size, 1, none⟩ = false := by go_simp
  generalize (w.alloc (.cells #[.int .i64 0, .slice none 0 0] 24)) = W at E1 c0 c1 f0 f1 ⊢
  refine (Parse_any s q _ h).mono ?_
  rintro e w1 ⟨a, cap, rfl, hc, hm, hr, hE⟩
  obtain ⟨n, L⟩ := q
  dsimp only at hc hm hr ⊢
  have HC := Lib.hid hc
  have HM := Lib.hid hm
  have HR := Lib.hid hr
  clear hc hm hr
  have E4 := E1.trans hE
  have d0 := hE.cell c0
  have d1 := hE.cell c1
  have g0 := (Below.frozen (p := ⟨w.heap.size, 0, none⟩) hE (cell_lt c0)).trans f0
  have g1 := (Below.frozen (p := ⟨w.heap.size, 1, none⟩) hE (cell_lt c1)).trans f1
  have hzW : olB W w.heap.size := cell_lt c0
  have hz := cell_lt d0
  dsimp only at hz
  have EF : Ext w (((w1.setCell ⟨w.heap.size, 0, none⟩ (.int .i64 n)).setCell ⟨w.heap.size, 1, none⟩ (.slice a L.length cap)).alloc (.cells #[.int .i64 n, .slice a L.length cap] 24)) := ((E4.set (by omega) _).set (by omega) _).alloc _
  have hCF : Hid (CellsP (((w1.setCell ⟨w.heap.size, 0, none⟩ (.int .i64 n)).setCell ⟨w.heap.size, 1, none⟩ (.slice a L.length cap)).alloc (.cells #[.int .i64 n, .slice a L.length cap] 24)) a L) :=
    HC.out _ (((Chg.setCell (B := olB W) ⟨w.heap.size, 0, none⟩ (.int .i64 n) hzW).trans (Chg.setCell (B := olB W) ⟨w.heap.size, 1, none⟩ (.slice a L.length cap) hzW)).trans (Chg.ext ((Ext.refl _).alloc _)))
  go_wp2
  refine bodyPost_ret (v := .agg #[.int .i64 n, .slice a L.length cap]) (by rw [results_cell1 rfl]; go_simp) rfl ⟨a, cap, rfl, hCF.out, HM.out, HR.out, EF⟩
def smallB (n : Int) (l : List Stp) (k : Nat) : Bool := decide (l.length ≤ k) && fewB l && decide (ckSeq (n, l) = 0)
theorem smallB_true {n : Int} {l : List Stp} {k : Nat} (h : smallB n l k = true) : l.length ≤ k ∧ ckSeq (n, l) = 0 := by
  unfold smallB at h
  rw [Bool.and_eq_true, Bool.and_eq_true] at h
  exact ⟨of_decide_eq_true h.1.1, of_decide_eq_true h.2⟩
set_option maxHeartbeats 8000000 in
set_option maxRecDepth 100000 in
theorem caseSmall_any (n : Int) (l : List Stp) (a : Option Addr) (cap k : Nat) (w : World) (hc : CellsP w a l) (hr : Room a l.length cap) :
    Calls Tryd.prog 7 #[.agg #[.int .i64 n, .slice a l.length cap], .int .i64 k] w fun e w' => e = .returned (.bool (smallB n l k)) ∧ Ext w w' := by
  have HC := Lib.hid hc
  have HR := Lib.hid hr
  obtain ⟨R, hR⟩ : ∃ R, R = smallB n l k := ⟨_, rfl⟩
  rw [← hR]
  have HRR : Hid (R = (decide (l.length ≤ k) && fewB l && decide (ckSeq (n, l) = 0))) := hR
  clear hc hr hR
  have E0 : Ext w (w.alloc (.cells #[.int .i64 n, .slice a l.length cap] 24)) := extA
  have c0 : ((w.alloc (.cells #[.int .i64 n, .slice a l.length cap] 24))).cell? ⟨w.heap.size, 0, none⟩ = some (.int .i64 n) := by go_simp
  have c1 : ((w.alloc (.cells #[.int .i64 n, .slice a l.length cap] 24))).cell? ⟨w.heap.size, 1, none⟩ = some (.slice a l.length cap) := by go_simp
  by_cases hk : l.length ≤ k
  · have HRR2 : Hid (R = (fewB l && decide (ckSeq (n, l) = 0))) := by show _ = _; rw [HRR.out, decide_eq_true hk, Bool.true_and]
    go_enter Tryd.func7, Tryd.ntmps7
    go_wp2_with fail
    obtain ⟨bs, hbs⟩ : ∃ bs, bs = w.heap.size := ⟨_, rfl⟩
    rw [← hbs] at c0 c1 ⊢
    clear hbs HRR
    generalize (w.alloc (.cells #[.int .i64 n, .slice a l.length cap] 24)) = W at E0 c0 c1 ⊢
    refine (Few_any (.int .i64 n) l a cap _ HR.out (HC.out.ext E0)).mono ?_
    rintro e w1 ⟨rfl, hE⟩
    have F1 := E0.trans hE
    have c0 := (hE).cell c0
    have c1 := (hE).cell c1
    generalize fewB l = fw at HRR2 ⊢
    cases fw
    · have h := HRR2.out
      rw [Bool.false_and] at h
      subst h
      clear HRR2
      go_wp2
      go_ret
      exact ⟨rfl, F1⟩
    · have H := Lib.hid HRR2.out
      rw [Bool.true_and] at H
      clear HRR2
      go_wp2_with fail
      refine (CheckR_any n l a cap _ HR.out (HC.out.ext F1)).mono ?_
      rintro e w2 ⟨rfl, hE⟩
      have F2 := F1.trans hE
      obtain ⟨er, her⟩ : ∃ er, er = ckSeq (n, l) := ⟨_, rfl⟩
      rw [← her] at H ⊢
      clear her hE F1
      by_cases h0 : er = 0
      · have h := H.out
        rw [decide_eq_true h0] at h
        subst h
        subst h0
        clear H
        go_wp2
        go_ret
        exact ⟨rfl, F2⟩
      · have h := H.out
        rw [decide_eq_false h0] at h
        subst h
        have h1 : (er == 0) = false := by simp [h0]
        clear H h0
        go_wp2
        go_ret
        exact ⟨rfl, F2⟩
  · have h := HRR.out
    rw [decide_eq_false hk, Bool.false_and, Bool.false_and] at h
    subst h
    have h31 : ¬ (l.length : Int) ≤ (k : Int) := by omega
    clear HRR hk
    go_enter Tryd.func7, Tryd.ntmps7
    go_wp2
    go_ret
    exact ⟨rfl, E0⟩
def gq1 : Sq := (2, [([(0, true)], 0), ([(1, true)], 0), ([(0, false)], 20), ([(1, false)], 0)])
def gq2 : Sq := (2, [([(0, true)], 0), ([(0, false)], 0), ([(1, true)], 0), ([(1, false)], 0)])
theorem gq1_text : sqL (ByteArray.mk #[65, 43, 59, 32, 66, 43, 59, 32, 65, 45, 32, 50, 48, 59, 32, 66, 45]).toList = some gq1 := by rw [ByteArray.toList_eq]; decide +kernel
theorem gq2_text : sqL (ByteArray.mk #[65, 43, 59, 32, 65, 45, 59, 32, 66, 43, 59, 32, 66, 45]).toList = some gq2 := by rw [ByteArray.toList_eq]; decide +kernel
theorem gq1_ck : ckSeq (gq1.1, gq1.2) = 0 ∧ intsN (longS (okF (cyc gq1.2)) gq1.2.length 0) = [0, 2] := by decide +kernel
theorem gq2_ck : ckSeq (gq2.1, gq2.2) = 0 ∧ intsN (ringS (okF (cyc gq2.2)) gq2.2.length) = [1, 3] := by decide +kernel
set_option maxHeartbeats 8000000 in
set_option maxRecDepth 100000 in
theorem caseGroups_any (w : World) (hG : GBits w) : Calls Tryd.prog 8 #[] w fun e w' => e = .returned (.bool true) ∧ Ext w w' := by
  have HG := Lib.hid hG
  clear hG
  go_enter Tryd.func8, Tryd.ntmps8
  go_wp2_with fail
  refine (caseParsed_any _ gq1 _ gq1_text).mono ?_
  rintro e w1 ⟨a1, d1, rfl, hc1, _, _, hE1⟩
  have HC1 := Lib.hid hc1
  have HF1 := Lib.hid (fun W hG hc => Fewest_any gq1.1 gq1.2 a1 d1 W gq1_ck.1 hG hc)
  rw [gq1_ck.2] at HF1
  clear hc1
  go_wp2_with fail
  refine (HF1.out _ (HG.out.ext hE1) HC1.out).mono ?_
  rintro e w2 ⟨ra, rc, rfl, hr, _, hE2⟩
  have HI1 := Lib.hid hr
  have F2 := hE1.trans hE2
  clear hr HC1 HF1 hE1 hE2
  go_wp2_with fail
  refine (caseParsed_any _ gq2 _ gq2_text).mono ?_
  rintro e w3 ⟨a3, d3, rfl, hc3, _, _, hE3⟩
  have HC3 := Lib.hid hc3
  have HF3 := Lib.hid (fun W hG hc => Ring_any gq2.1 gq2.2 a3 d3 W gq2_ck.1 hG hc)
  rw [gq2_ck.2] at HF3
  have F3 := F2.trans hE3
  replace HI1 := Lib.hid (HI1.out.ext hE3)
  clear hc3 F2 hE3
  go_wp2_with fail
  refine (HF3.out _ (HG.out.ext F3) HC3.out).mono ?_
  rintro e w4 ⟨rb, rd, rfl, hr4, _, hE4⟩
  have HI2 := Lib.hid hr4
  have F4 := F3.trans hE4
  replace HI1 := Lib.hid (HI1.out.ext hE4)
  clear hr4 HC3 HF3 F3 hE4
  go_wp2_with fail
  have E5 : Ext w4 (w4.alloc (.cells #[.int .i64 0, .int .i64 2] 3)) := extA
  refine (aw_Equal [0, 2] (by decide) ra _ rc _ _ (HI1.out.ext E5) (cellsI_two (by go_simp) (by go_simp))).mono ?_
  rintro e w5 ⟨rfl, hE5⟩
  have F5 := F4.trans (E5.trans hE5)
  replace HI2 := Lib.hid (HI2.out.ext (E5.trans hE5))
  clear HI1 E5 hE5 F4
  go_wp2_with fail
  have E6 : Ext w5 (w5.alloc (.cells #[.int .i64 1, .int .i64 3] 3)) := extA
  refine (aw_Equal [1, 3] (by decide) rb _ rd _ _ (HI2.out.ext E6) (cellsI_two (by go_simp) (by go_simp))).mono ?_
  rintro e w6 ⟨rfl, hE6⟩
  go_wp2
  go_ret
  exact ⟨rfl, F5.trans (E6.trans hE6)⟩
end Go.Proofs.YtdolibeceijnnaaDoor
