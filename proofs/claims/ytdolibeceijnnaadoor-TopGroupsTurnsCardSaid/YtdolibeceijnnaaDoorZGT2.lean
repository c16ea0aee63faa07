/- Steps of the proof: QChk, QAfter, QChkR, QStepsR, QSame, QSameS, QSameP, QSameF, QFew, QAlong, QEnds, QPauses, QOwnK. No conditions. -/
import Derived.Deep.OwnRows
import Derived.OwnWalk
import Derived.Lib.SliceRun
import Derived.Test.YtdolibeceijnnaaDoorZGT1
namespace Go.Proofs.YtdolibeceijnnaaDoor
open Go.RowKit
structure CkSt (h : Nat) (W wr : World) (e m : Int → Bool) : Prop where
  be : Below (h + 1) W wr
  x : EndsAt wr (h + 1) e
  m : EndsAt wr (h + 1 + 1) m
theorem CkSt.ext {h : Nat} {W A B : World} {e m : Int → Bool} (k : CkSt h W A e m) (x : Ext A B) : CkSt h W B e m :=
  ⟨k.be.trans (x.mono (Nat.le_trans (by have := cell_lt (k.x 0 (by omega)).1; exact Nat.le_of_lt this) (Nat.le_refl _))), k.x.ext x, k.m.ext x⟩
theorem CkSt.setX {h : Nat} {W A : World} {e m : Int → Bool} (k : CkSt h W A e m) (f : Int → Bool) :
    CkSt h W ((((((A.setCell ⟨h + 1, 0, none⟩ (.bool (f 0))).setCell ⟨h + 1, 1, none⟩ (.bool (f 1))).setCell ⟨h + 1, 2, none⟩ (.bool (f 2))).setCell ⟨h + 1, 3, none⟩ (.bool (f 3))).setCell ⟨h + 1, 4, none⟩ (.bool (f 4))).setCell ⟨h + 1, 5, none⟩ (.bool (f 5))) f m :=
  ⟨((((((k.be.setCell (p := ⟨h + 1, 0, none⟩) (Nat.le_refl _) _).setCell (p := ⟨h + 1, 1, none⟩) (Nat.le_refl _) _).setCell (p := ⟨h + 1, 2, none⟩) (Nat.le_refl _) _).setCell (p := ⟨h + 1, 3, none⟩) (Nat.le_refl _) _).setCell (p := ⟨h + 1, 4, none⟩) (Nat.le_refl _) _).setCell (p := ⟨h + 1, 5, none⟩) (Nat.le_refl _) _),
   k.x.store6 f, (((((k.m.other (by omega) _ _).other (by omega) _ _).other (by omega) _ _).other (by omega) _ _).other (by omega) _ _).other (by omega) _ _⟩
theorem CkSt.setM {h : Nat} {W A : World} {e m : Int → Bool} (k : CkSt h W A e m) {a : Int} (h0 : 0 ≤ a) (h6 : a < 6) : CkSt h W (A.setCell ⟨h + 1 + 1, a.toNat, none⟩ (.bool true)) e (fun i => if i = a then true else m i) :=
  ⟨k.be.setCell (p := ⟨h + 1 + 1, a.toNat, none⟩) (by show h + 1 ≤ h + 1 + 1; omega) _, k.x.other (by omega) _ _, k.m.set h0 h6 true⟩
theorem CkSt.congr {h : Nat} {W A : World} {e m m' : Int → Bool} (k : CkSt h W A e m) (hm : ∀ i, m i = m' i) : CkSt h W A e m' := by rw [← (funext hm : m = m')]; exact k
def MovedAt (l : List Stp) (k : Nat) (st : List Stk) (j : Nat) : Int → Bool := fun a => movedIn a (l.take k) || movesL a (st.take j)
theorem MovedAt_zero (l : List Stp) (k : Nat) (st : List Stk) : MovedAt l k st 0 = fun a => movedIn a (l.take k) := by
  funext a; unfold MovedAt; simp [movesL]
theorem MovedAt_succ (l : List Stp) (k : Nat) (st : List Stk) {j : Nat} (h : j < st.length) (i : Int) : (if i = (st.getD j stk0).1 then true else MovedAt l k st j i) = MovedAt l k st (j + 1) i := by
  unfold MovedAt
  rw [movesL_take i st h]
  by_cases c : i = (st.getD j stk0).1
  · rw [if_pos c, c]; simp
  · have : ((st.getD j stk0).1 == i) = false := by simp; exact fun x => c x.symm
    rw [if_neg c, this]; simp
theorem MovedAt_end (l : List Stp) {k : Nat} (h : k < l.length) (i : Int) : MovedAt l k (l.getD k stp0).1 (l.getD k stp0).1.length i = movedIn i (l.take (k + 1)) := by
  unfold MovedAt
  rw [movedIn_take i l h, List.take_of_length_le (Nat.le_refl _)]
  rfl
theorem sliceEnds (p : Nat) (n : Int) (h0 : 0 ≤ n) (h6 : n ≤ 6) (w : World) : (Instr.sliceAt 95 (.pointer (some ⟨p, 0, none⟩)) none (some (.int .i64 n)) none).run Tryd.prog w = .ok (.slice (some ⟨p, 0, none⟩) n.toNat 6) w := by
  have hu : Tryd.prog.underlying 95 = some (.array (Tryd.prog.arrayLen 95) (Tryd.prog.elem 95)) := by kernel_rfl
  have hl : Tryd.prog.arrayLen 95 = 6 := by kernel_rfl
  have hs : ∀ w, (sizeOf (Tryd.prog.elem 95)).run Tryd.prog w = .ok 1 w := fun _ => by kernel_rfl
  rw [run_sliceAt_array_h w _ _ hu _ _ h0 (by rw [hl]; exact h6), hs, hl]
  simp [slicedAt, Result.andThen, Addr.add]
theorem EndsAt.cells {w : World} {p : Nat} {f : Int → Bool} (h : EndsAt w p f) {n : Nat} (hn : n ≤ 6) : CellsB w (some ⟨p, 0, none⟩) n f := fun i hi => ⟨p, 0, rfl, by rw [Nat.zero_add]; exact (h i (by omega)).1⟩
set_option maxHeartbeats 4000000 in
set_option maxRecDepth 100000 in
theorem Check_any (n : Int) (l : List Stp) (a : Option Addr) (cap : Nat) (w : World) (hl : l.length ≤ maxLen) (hc : CellsP w a l) :
    Calls Tryd.prog 28 #[.agg #[.int .i64 n, .slice a l.length cap]] w fun r w' => r = .returned (.int .i64 (ckSeq (n, l))) ∧ Ext w w' := by
  have HC := Lib.hid hc
  have HL := Lib.hid hl
  unfold maxLen at hl
  clear hc
  have E0 : Ext w (w.alloc (.cells #[.int .i64 n, .slice a l.length cap] 24)) := extA
  by_cases h1 : n < 1
  · have hf : Hid (ckSeq (n, l) = 2) := by show _ = _; unfold ckSeq; rw [if_pos (Or.inl h1)]
    go_enter Tryd.func28, Tryd.ntmps28
    go_wp2
    all_goals go_ret
    all_goals exact ⟨ret_int hf.out.symm, extA⟩
  by_cases h2 : 6 < n
  · have hf : Hid (ckSeq (n, l) = 2) := by show _ = _; unfold ckSeq; rw [if_pos (Or.inr h2)]
    go_enter Tryd.func28, Tryd.ntmps28
    go_wp2
    all_goals go_ret
    all_goals exact ⟨ret_int hf.out.symm, extA⟩
  by_cases h0 : l.length = 0
  · have hf : Hid (ckSeq (n, l) = 13) := by show _ = _; unfold ckSeq; rw [if_neg (by dsimp only; omega), if_pos h0]
    have h0' : ((l.length : Int) == 0) = true := by simp [h0]
    have h0b : (l.length == 0) = true := by simp [h0]
    go_enter Tryd.func28, Tryd.ntmps28
    go_wp2
    all_goals go_ret
    all_goals exact ⟨ret_int hf.out.symm, extA⟩
  have h0' : ((l.length : Int) == 0) = false := beq_eq_false_iff_ne.2 (by omega)
  have h0b : (l.length == 0) = false := beq_eq_false_iff_ne.2 h0
  by_cases h6 : 64 < l.length
  · have hf : Hid (ckSeq (n, l) = 5) := by show _ = _; unfold ckSeq; rw [if_neg (by dsimp only; omega), if_neg h0, if_pos h6]
    go_enter Tryd.func28, Tryd.ntmps28
    go_wp2
    all_goals go_ret
    all_goals exact ⟨ret_int hf.out.symm, extA⟩
  have hf : Hid (ckSeq (n, l) = if ckWalk n none6 l ≠ 0 then ckWalk n none6 l else if (ints n).any (behAll none6 l) then 9 else if (ints n).any (fun a => !movedIn a l) then 13 else 0) := by
    show _ = _; unfold ckSeq; rw [if_neg (by dsimp only; omega), if_neg h0, if_neg h6]
  clear h0
  go_enter Tryd.func28, Tryd.ntmps28
  go_wp2
  have E1 : Ext w (((w.alloc (.cells #[.int .i64 n, .slice a l.length cap] 24)).alloc (.cells #[.bool false, .bool false, .bool false, .bool false, .bool false, .bool false] 95)).alloc (.cells #[.bool false, .bool false, .bool false, .bool false, .bool false, .bool false] 95)) := extA
  have c1 : (((w.alloc (.cells #[.int .i64 n, .slice a l.length cap] 24)).alloc (.cells #[.bool false, .bool false, .bool false, .bool false, .bool false, .bool false] 95)).alloc (.cells #[.bool false, .bool false, .bool false, .bool false, .bool false, .bool false] 95)).cell? ⟨w.heap.size, 0, none⟩ = some (.int .i64 n) := by go_simp
  have c2 : (((w.alloc (.cells #[.int .i64 n, .slice a l.length cap] 24)).alloc (.cells #[.bool false, .bool false, .bool false, .bool false, .bool false, .bool false] 95)).alloc (.cells #[.bool false, .bool false, .bool false, .bool false, .bool false, .bool false] 95)).cell? ⟨w.heap.size, 1, none⟩ = some (.slice a l.length cap) := by go_simp
  have c3 : CkSt w.heap.size (((w.alloc (.cells #[.int .i64 n, .slice a l.length cap] 24)).alloc (.cells #[.bool false, .bool false, .bool false, .bool false, .bool false, .bool false] 95)).alloc (.cells #[.bool false, .bool false, .bool false, .bool false, .bool false, .bool false] 95)) (((w.alloc (.cells #[.int .i64 n, .slice a l.length cap] 24)).alloc (.cells #[.bool false, .bool false, .bool false, .bool false, .bool false, .bool false] 95)).alloc (.cells #[.bool false, .bool false, .bool false, .bool false, .bool false, .bool false] 95)) none6 none6 :=
    ⟨Below.refl _ _, (ends_new (by simp) none6).ext ((Ext.refl _).alloc _), ends_new (by simp) none6⟩
  generalize (((w.alloc (.cells #[.int .i64 n, .slice a l.length cap] 24)).alloc (.cells #[.bool false, .bool false, .bool false, .bool false, .bool false, .bool false] 95)).alloc (.cells #[.bool false, .bool false, .bool false, .bool false, .bool false, .bool false] 95)) = W at E1 c1 c2 c3 ⊢
  have C3 := Lib.hid c3
  clear c3
  have HW : Hid (w.heap.size + 1 ≤ W.heap.size) := by have := cell_lt (C3.out.x 0 (by omega)).1; dsimp only at this; show _ ≤ _; omega
  go_loopw [32] (fun i wr => ∃ k : Nat, k ≤ l.length ∧ i = .int .i64 k ∧ Hid (CkSt w.heap.size W wr (behAll none6 (l.take k)) (fun a => movedIn a (l.take k))) ∧ Hid (ckWalk n (behAll none6 (l.take k)) (l.drop k) = ckWalk n none6 l)) (fun i _ => l.length - (intOf i).toNat)
  case atStart => exact ⟨0, Nat.zero_le _, rfl, C3, by show _ = _; rfl⟩
  case round =>
    obtain ⟨k, hk, rfl, D, hz⟩ := hrel
    clear C3
    have E2 : Ext w wr := E1.trans' D.out.be (by omega)
    have d1 := cellB D.out.be (p := ⟨w.heap.size, 0, none⟩) (by show w.heap.size < _; omega) c1
    have d2 := cellB D.out.be (p := ⟨w.heap.size, 1, none⟩) (by show w.heap.size < _; omega) c2
    have ym := cell_lt (D.out.m 0 (by omega)).1
    dsimp only at ym
    have y1 : w.heap.size < wr.heap.size := by omega
    have y2 : w.heap.size + 1 < wr.heap.size := by omega
    by_cases hlt : k < l.length
    · obtain ⟨b, off, v, ha, e1, hv, e2⟩ := HC.out k hlt
      subst ha
      obtain ⟨sa, sc, rfl, hcs, hls⟩ := hv
      have e1 := E2.cell e1
      have e2 := E2.cell e2
      have hz1 := hz.out
      rw [drop_cons l stp0 hlt] at hz1
      have HZ := Lib.hid (ckWalk_cons hz1)
      have HB := Lib.hid (behAll_take none6 l hlt)
      have HM := Lib.hid (MovedAt_end l hlt)
      have HM2 := Lib.hid (fun st : List Stk => MovedAt_zero l k st)
      have HM3 := Lib.hid (fun (st : List Stk) (j : Nat) (h : j < st.length) (i : Int) => MovedAt_succ l k st h i)
      clear hz1 hz
      generalize l.getD k stp0 = x at e1 e2 hcs hls HZ HB HM
      obtain ⟨st, wait⟩ := x
      dsimp only at e1 e2 hcs hls HZ HB HM
      generalize hg : MovedAt l k st = mm at HM
      have HG := Lib.hid hg
      clear hg
      generalize hee : behAll none6 (l.take k) = ee at D HZ HB
      have HEE := Lib.hid hee
      clear hee
      have HCS := Lib.hid hcs
      have HLS := Lib.hid hls
      clear hcs hls
      have z1 := cell_lt e1
      dsimp only at z1
      have hx6 := D.out.x.six
      obtain ⟨⟨x0, x1, x2, x3, x4, x5⟩, _⟩ := hx6
      by_cases hfit : ckFit n (st, wait) ee = 0
      · have HF := Lib.hid hfit
        have HO := Lib.hid (ckFit_ok hfit)
        have HZ2 := Lib.hid (HZ.out.2 hfit)
        clear hfit HZ
        go_wp2_with fail
        have F1 : Ext w (wr.alloc (.cells #[.slice sa st.length sc, .int .i64 wait] 65)) := extA
        have D1 : Hid (CkSt w.heap.size W (wr.alloc (.cells #[.slice sa st.length sc, .int .i64 wait] 65)) ee (fun a => movedIn a (l.take k))) := D.out.ext ((Ext.refl _).alloc _)
        have f1 : (wr.alloc (.cells #[.slice sa st.length sc, .int .i64 wait] 65)).cell? ⟨wr.heap.size, 0, none⟩ = some (.slice sa st.length sc) := by go_simp
        have f2 : (wr.alloc (.cells #[.slice sa st.length sc, .int .i64 wait] 65)).cell? ⟨wr.heap.size, 1, none⟩ = some (.int .i64 wait) := by go_simp
        have HW1 : Hid (w.heap.size + 1 + 1 < wr.heap.size) := ym
        generalize wr.alloc (.cells #[.slice sa st.length sc, .int .i64 wait] 65) = W1 at F1 D1 f1 f2 ⊢
        clear x0 x1 x2 x3 x4 x5 d1 d2
        refine (fits_any n _ st wait sa sc ee _ HLS.out (HCS.out.ext F1)).mono ?_
        rintro r w2 ⟨rfl, hE2⟩
        rw [HF.out]
        have F2 := F1.trans hE2
        have D2 : Hid (CkSt w.heap.size W w2 ee (fun a => movedIn a (l.take k))) := D1.out.ext hE2
        have f1 := hE2.cell f1
        have f2 := hE2.cell f2
        obtain ⟨⟨x0, x1, x2, x3, x4, x5⟩, g0, g1, g2, g3, g4, g5⟩ := D2.out.x.six
        go_wp2_with fail
        refine (behind_any st wait sa sc ee _ HLS.out (HCS.out.ext F2) (ckStep_known HO.out.1)).mono ?_
        rintro r w3 ⟨rfl, hE3⟩
        have F3 := F2.trans hE3
        have D3 : Hid (CkSt w.heap.size W w3 ee (fun a => movedIn a (l.take k))) := D2.out.ext hE3
        have f1 := hE3.cell f1
        have f2 := hE3.cell f2
        have hq6 : st.length ≤ 6 := (ckStep_strokes HO.out.1).2.1
        have HKN : Hid (Known st) := ckStep_known HO.out.1
        clear x0 x1 x2 x3 x4 x5 g0 g1 g2 g3 g4 g5
        obtain ⟨⟨x0, x1, x2, x3, x4, x5⟩, g0, g1, g2, g3, g4, g5⟩ := D3.out.x.six
        generalize beh ee st = ff at HB HZ2 ⊢
        unfold endsV
        have hsz : wr.heap.size < w3.heap.size := cell_lt f1
        go_wp2
        have F4 : Ext w ((((((w3.setCell ⟨w.heap.size + 1, 0, none⟩ (.bool (ff 0))).setCell ⟨w.heap.size + 1, 1, none⟩ (.bool (ff 1))).setCell ⟨w.heap.size + 1, 2, none⟩ (.bool (ff 2))).setCell ⟨w.heap.size + 1, 3, none⟩ (.bool (ff 3))).setCell ⟨w.heap.size + 1, 4, none⟩ (.bool (ff 4))).setCell ⟨w.heap.size + 1, 5, none⟩ (.bool (ff 5))) := extA
        have D4 : Hid (CkSt w.heap.size W ((((((w3.setCell ⟨w.heap.size + 1, 0, none⟩ (.bool (ff 0))).setCell ⟨w.heap.size + 1, 1, none⟩ (.bool (ff 1))).setCell ⟨w.heap.size + 1, 2, none⟩ (.bool (ff 2))).setCell ⟨w.heap.size + 1, 3, none⟩ (.bool (ff 3))).setCell ⟨w.heap.size + 1, 4, none⟩ (.bool (ff 4))).setCell ⟨w.heap.size + 1, 5, none⟩ (.bool (ff 5))) ff (fun a => movedIn a (l.take k))) := D3.out.setX ff
        have B4 : Below (w.heap.size + 1) w3 ((((((w3.setCell ⟨w.heap.size + 1, 0, none⟩ (.bool (ff 0))).setCell ⟨w.heap.size + 1, 1, none⟩ (.bool (ff 1))).setCell ⟨w.heap.size + 1, 2, none⟩ (.bool (ff 2))).setCell ⟨w.heap.size + 1, 3, none⟩ (.bool (ff 3))).setCell ⟨w.heap.size + 1, 4, none⟩ (.bool (ff 4))).setCell ⟨w.heap.size + 1, 5, none⟩ (.bool (ff 5))) :=
          ((((((Below.refl _ _).setCell (p := ⟨w.heap.size + 1, 0, none⟩) (Nat.le_refl _) _).setCell (p := ⟨w.heap.size + 1, 1, none⟩) (Nat.le_refl _) _).setCell (p := ⟨w.heap.size + 1, 2, none⟩) (Nat.le_refl _) _).setCell (p := ⟨w.heap.size + 1, 3, none⟩) (Nat.le_refl _) _).setCell (p := ⟨w.heap.size + 1, 4, none⟩) (Nat.le_refl _) _).setCell (p := ⟨w.heap.size + 1, 5, none⟩) (Nat.le_refl _) _
        have hs4 : ((((((w3.setCell ⟨w.heap.size + 1, 0, none⟩ (.bool (ff 0))).setCell ⟨w.heap.size + 1, 1, none⟩ (.bool (ff 1))).setCell ⟨w.heap.size + 1, 2, none⟩ (.bool (ff 2))).setCell ⟨w.heap.size + 1, 3, none⟩ (.bool (ff 3))).setCell ⟨w.heap.size + 1, 4, none⟩ (.bool (ff 4))).setCell ⟨w.heap.size + 1, 5, none⟩ (.bool (ff 5))).heap.size = w3.heap.size := by simp
        generalize (((((w3.setCell ⟨w.heap.size + 1, 0, none⟩ (.bool (ff 0))).setCell ⟨w.heap.size + 1, 1, none⟩ (.bool (ff 1))).setCell ⟨w.heap.size + 1, 2, none⟩ (.bool (ff 2))).setCell ⟨w.heap.size + 1, 3, none⟩ (.bool (ff 3))).setCell ⟨w.heap.size + 1, 4, none⟩ (.bool (ff 4))).setCell ⟨w.heap.size + 1, 5, none⟩ (.bool (ff 5)) = w4 at F4 D4 B4 hs4 ⊢
        clear x0 x1 x2 x3 x4 x5 g0 g1 g2 g3 g4 g5 hs4
        have DM : Hid (CkSt w.heap.size W w4 ff (mm 0)) := by
          show CkSt _ _ _ _ _
          rw [← HG.out]
          exact D4.out.congr (fun i => by rw [HM2.out])
        obtain ⟨wo, rfl⟩ : ∃ wo : World, wo = wr := ⟨_, rfl⟩
        go_loopw [49] (fun j w5 => ∃ q : Nat, q ≤ st.length ∧ j = .int .i64 q ∧ Ext w w5 ∧ Hid (CkSt w.heap.size W w5 ff (mm q))) (fun j _ => st.length - (intOf j).toNat)
        case atStart => exact ⟨0, Nat.zero_le _, rfl, F4, DM⟩
        case round =>
          obtain ⟨q, hq, rfl, G5, DQ⟩ := hrel
          clear DM
          by_cases hltq : q < st.length
          · obtain ⟨b', off', ha', p1, p2⟩ := HCS.out.ext G5 q hltq
            subst ha'
            have hkn := HKN.out q hltq
            have HS := Lib.hid (HM3.out st q hltq)
            generalize st.getD q stk0 = y at p1 p2 hkn HS
            obtain ⟨ya, yo⟩ := y
            dsimp only at p1 p2 hkn HS
            obtain ⟨g0, g6⟩ := hkn
            obtain ⟨m1, m2⟩ := DQ.out.m ya.toNat (by omega)
            rw [Int.toNat_of_nonneg g0] at m1
            have zq := cell_lt p1
            have zm := cell_lt m1
            dsimp only at zq zm
            have DN : Hid (CkSt w.heap.size W ((wr.setCell ⟨w.heap.size + 1 + 1, ya.toNat, none⟩ (.bool true)).alloc (.cells #[.int .i64 ya, .bool yo] 67)) ff (mm (q + 1))) := by
              show CkSt _ _ _ _ _
              refine ((DQ.out.setM g0 g6).congr fun i => ?_).ext ((Ext.refl _).alloc _)
              rw [← HG.out]
              exact HS.out i
            have EN : Ext w ((wr.setCell ⟨w.heap.size + 1 + 1, ya.toNat, none⟩ (.bool true)).alloc (.cells #[.int .i64 ya, .bool yo] 67)) := extA
            clear DQ HS
            go_wp2
            refine ⟨⟨q + 1, by omega, by go_num, EN, DN⟩, by simp [intOf]; omega⟩
          · have DE : Hid (CkSt w.heap.size W wr (behAll none6 (l.take (k + 1))) (fun a => movedIn a (l.take (k + 1)))) := by
              show CkSt _ _ _ _ _
              rw [HB.out]
              have hqe : q = st.length := by omega
              subst hqe
              exact DQ.out.congr HM.out
            have ZE : Hid (ckWalk n (behAll none6 (l.take (k + 1))) (l.drop (k + 1)) = ckWalk n none6 l) := by
              show _ = _
              rw [HB.out]; exact HZ2.out
            clear DQ
            go_wp2
            refine ⟨⟨k + 1, by omega, by go_num, DE, ZE⟩, by simp [intOf]; omega⟩
      · have hfit' : (ckFit n (st, wait) ee != 0) = true := by simp [hfit]
        have HF : Hid (ckSeq (n, l) = ckFit n (st, wait) ee) := by
          show _ = _
          have h := HZ.out.1 hfit
          rw [hf.out, h, if_pos hfit]
        clear hfit HZ
        generalize hcf : ckFit n (st, wait) ee = cf at HF hfit'
        have HCF := Lib.hid hcf
        clear hcf
        go_wp2_with fail
        have F1 : Ext w (wr.alloc (.cells #[.slice sa st.length sc, .int .i64 wait] 65)) := extA
        refine (fits_any n _ st wait sa sc ee _ HLS.out (HCS.out.ext F1)).mono ?_
        rintro r w2 ⟨rfl, hE2⟩
        rw [HCF.out]
        go_wp2
        go_ret
        exact ⟨ret_int HF.out.symm, extA⟩
    · have hlt' : l.take k = l := List.take_of_length_le (by omega)
      have hz1 := hz.out
      rw [List.drop_eq_nil_of_le (by omega)] at hz1
      have hz0 : ckWalk n none6 l = 0 := hz1.symm
      have HFF : Hid (ckSeq (n, l) = if any6 (behAll none6 l) then 9 else if hasB n.toNat (fun a => movedIn a l) false then 13 else 0) := by
        show _ = _
        rw [hf.out, hz0, any6_ints h1 h2 hz0, hasB_ints]
        rfl
      rw [hlt'] at D
      clear hz1 hz0 hz hlt' hf
      generalize behAll none6 l = ee at D HFF
      obtain ⟨⟨x0, x1, x2, x3, x4, x5⟩, g0, g1, g2, g3, g4, g5⟩ := D.out.x.six
      have hneq := fun w => neqEnds (ee 0) (ee 1) (ee 2) (ee 3) (ee 4) (ee 5) w
      have hzz : ∀ w, (zeroValue 95).run Tryd.prog w = .ok (.agg #[.bool false, .bool false, .bool false, .bool false, .bool false, .bool false]) w := fun _ => by kernel_rfl
      have DM := Lib.hid D.out.m
      clear D
      cases h9 : any6 ee
      · unfold any6 at h9
        rw [h9] at hneq
        have HF2 : Hid (ckSeq (n, l) = if hasB n.toNat (fun a => movedIn a l) false then 13 else 0) := by
          show _ = _
          rw [HFF.out, if_neg (by unfold any6; rw [h9]; simp)]
        clear h9 HFF
        have hn3 : n.toNat ≤ 6 := by omega
        have hsl := fun w' => sliceEnds (w.heap.size + 1 + 1) n (by omega) h2 w'
        have HCB := Lib.hid (DM.out.cells hn3)
        cases hh : hasB n.toNat (fun a => movedIn a l) false
        · rw [hh] at HF2
          have HH := Lib.hid hh
          clear hh
          go_wp2_with ((refine (ContainsB_any n.toNat (fun a => movedIn a l) false _ 6 _ (by unfold maxLen; omega) HCB.out).mono ?_); rintro e w1 ⟨rfl, rfl⟩; rw [HH.out])
          go_ret
          exact ⟨ret_int HF2.out.symm, extA⟩
        · rw [hh] at HF2
          have HH := Lib.hid hh
          clear hh
          go_wp2_with ((refine (ContainsB_any n.toNat (fun a => movedIn a l) false _ 6 _ (by unfold maxLen; omega) HCB.out).mono ?_); rintro e w1 ⟨rfl, rfl⟩; rw [HH.out])
          go_ret
          exact ⟨ret_int HF2.out.symm, extA⟩
      · have HF2 : Hid (ckSeq (n, l) = 9) := by
          show _ = _
          rw [HFF.out, if_pos h9]
        unfold any6 at h9
        rw [h9] at hneq
        clear h9
        go_wp2
        go_ret
        exact ⟨ret_int HF2.out.symm, extA⟩
end Go.Proofs.YtdolibeceijnnaaDoor
namespace Go.Proofs.YtdolibeceijnnaaDoor
open Go.RowKit
theorem infoBool : (Tryd.prog.info? 4).map (fun i => (i.zero, i.size, i.bytes)) = some (some (.bool false), 1, 1) := by kernel_rfl
def BoolsAt (w : World) (p n : Nat) (e : Int → Bool) : Prop := ∀ k : Nat, k < n → w.cell? ⟨p, k, none⟩ = some (.bool (e k)) ∧ w.frozen? ⟨p, k, none⟩ = false
theorem BoolsAt.ext {w w' : World} {p n : Nat} {e : Int → Bool} (h : BoolsAt w p n e) (he : Ext w w') : BoolsAt w' p n e := fun k hk =>
  ⟨he.cell (h k hk).1, (Below.frozen (p := ⟨p, k, none⟩) he (cell_lt (h k hk).1)).trans (h k hk).2⟩
theorem BoolsAt.set {w : World} {p n : Nat} {e : Int → Bool} (h : BoolsAt w p n e) {a : Int} (h0 : 0 ≤ a) (_h6 : a < n) (b : Bool) : BoolsAt (w.setCell ⟨p, a.toNat, none⟩ (.bool b)) p n (fun i => if i = a then b else e i) := fun k hk => by
  refine ⟨?_, by rw [World.frozen?_setCell]; exact (h k hk).2⟩
  by_cases c : k = a.toNat
  · subst c
    rw [World.cell?_setCell_same _ _ _ (h _ hk).1]; show _ = some (Value.bool (if _ then _ else _)); rw [if_pos (by omega)]
  · rw [World.cell?_setCell_other _ _ _ _ (fun x => by simp only [Addr.mk.injEq] at x; omega), (h k hk).1]; show _ = some (Value.bool (if _ then _ else _)); rw [if_neg (by omega)]
theorem BoolsAt.cells {w : World} {p n : Nat} {f : Int → Bool} (h : BoolsAt w p n f) : CellsB w (some ⟨p, 0, none⟩) n f := fun i hi => ⟨p, 0, rfl, by rw [Nat.zero_add]; exact (h i hi).1⟩
def boolsL (n : Nat) (f : Int → Bool) : List Value := (List.range n).map fun i : Nat => Value.bool (f (i : Int))
theorem boolsL_get {n : Nat} {f : Int → Bool} {i : Nat} {u : Value} (h : (boolsL n f)[i]? = some u) : i < n ∧ u = .bool (f i) := by
  unfold boolsL at h
  rw [List.getElem?_map] at h
  by_cases hi : i < n
  · rw [List.getElem?_range hi] at h; exact ⟨hi, by simpa using h.symm⟩
  · rw [List.getElem?_eq_none (by simpa using hi)] at h; cases h
theorem boolsL_at {n : Nat} {f : Int → Bool} {i : Nat} (h : i < n) : (boolsL n f)[i]? = some (.bool (f i)) := by
  unfold boolsL
  rw [List.getElem?_map, List.getElem?_range h]; rfl
def BoolsPost (n : Nat) (f : Int → Bool) (w : World) (r : Ending) (w' : World) : Prop := ∃ g c, r = .returned (.slice (some ⟨g, 0, none⟩) n c) ∧ BoolsAt w' g n f ∧ w.heap.size ≤ g ∧ Ext w w'
theorem rowBools {w : World} {v : Value} {n : Nat} {f : Int → Bool} (h0 : 0 < n) (h : w.ownsRow 0 4 1 v n (boolsL n f)) : ∃ g c, v = .slice (some ⟨g, 0, none⟩) n c ∧ v.ownBlock = some g ∧ BoolsAt w g n f := by
  obtain ⟨a, c, hv, _, hr⟩ := rowReads h
  obtain ⟨g, ha, hg, _, _⟩ := hr 0 _ (boolsL_at h0)
  subst ha
  refine ⟨g, c, hv, hg, fun i hi => ?_⟩
  obtain ⟨b, hb, _, h1, h2⟩ := hr i _ (boolsL_at hi)
  injection hb with hb
  injection hb with hb _ _
  subst hb
  exact ⟨h1, h2⟩
set_option maxHeartbeats 2000000 in
set_option maxRecDepth 100000 in
theorem AfterR_any (l : List Stk) (wait : Int) (a : Option Addr) (cap : Nat) (n : Nat) (f : Int → Bool) (eb eo ec : Nat) (w : World) (hl : l.length ≤ maxLen) (hc : CellsK w a l) (hn : n ≤ 6) (h0 : 0 < n) (he : CellsB w (some ⟨eb, eo, none⟩) n f) (hk : ∀ k, k < l.length → 0 ≤ (l.getD k stk0).1 ∧ (l.getD k stk0).1 < n) :
    Calls Tryd.prog 76 #[.agg #[.slice a l.length cap, .int .i64 wait], .slice (some ⟨eb, eo, none⟩) n ec] w (BoolsPost n (beh f l) w) := by
  have HC := Lib.hid hc
  have HE := Lib.hid he
  have HK := Lib.hid hk
  clear hc he hk
  unfold maxLen at hl
  obtain ⟨i0, hi, hi0, hi1, hi2⟩ := info_parts infoBool
  go_enter Tryd.func76, Tryd.ntmps76
  have E1 : Ext w ((w.alloc (.cells #[.slice a l.length cap, .int .i64 wait] 65)).alloc (.cells #[] 4)) := extA
  have e1 : ((w.alloc (.cells #[.slice a l.length cap, .int .i64 wait] 65)).alloc (.cells #[] 4)).cell? ⟨w.heap.size, 0, none⟩ = some (.slice a l.length cap) := by go_simp
  have hown : ((w.alloc (.cells #[.slice a l.length cap, .int .i64 wait] 65)).alloc (.cells #[] 4)).ownsRow 0 4 1 (.slice (some ⟨w.heap.size + 1, 0, none⟩) 0 0) 0 [] := by
    have := World.ownsRow_made (w := w.alloc (.cells #[.slice a l.length cap, .int .i64 wait] 65)) (base := 0) (e := 4) (size := 1) #[] 0 (Nat.zero_le _) (Nat.zero_le _) rfl
    simpa using this
  have ez : ((w.alloc (.cells #[.slice a l.length cap, .int .i64 wait] 65)).alloc (.cells #[] 4)).heap.size = w.heap.size + 2 := by simp
  go_wp2_with (at_builtin; refine wpList_append1 _ rfl _ _ 59 rfl 4 i0 (.bool false) 1 1 Tryd.underlying59 hi hi0 hi1 hi2 rfl (by decide) (.slice (some ⟨w.heap.size + 1, 0, none⟩) 0 0) 0 [] rfl hown ⟨eb, eo, none⟩ n ec h0 (boolsL n f) rfl ?c0 ?c1 ?c2 ?c3 ?c4 ?c5)
  case c0 => simp [boolsL]
  case c1 =>
    intro j u hu
    obtain ⟨hj, rfl⟩ := boolsL_get hu
    obtain ⟨b, off, hb, hcell⟩ := HE.out.ext E1 j hj
    cases hb
    rw [Addr.add_lit]; exact hcell
  case c2 => intro u hu; unfold boolsL at hu; simp at hu; obtain ⟨i, _, rfl⟩ := hu; rfl
  case c3 => unfold maxLen; omega
  case c4 => omega
  case c5 =>
    intro v' w5 hown5 hend5
    obtain ⟨g, c, rfl, hg, hb⟩ := rowBools h0 hown5
    have B5 : Below (w.heap.size + 1) _ w5 := hend5.below (n := w.heap.size + 1) (by rw [ez]; omega) (fun b hb => by cases hb; exact Nat.le_refl _)
    have G5 := Lib.hid (hend5.ge (n := w.heap.size + 1) (by rw [ez]; omega) (fun b hb => by cases hb; exact Nat.le_refl _) g hg)
    have F5 : Ext w w5 := E1.trans' B5 (by omega)
    have e1 := cellB B5 (p := ⟨w.heap.size, 0, none⟩) (by show w.heap.size < _; omega) e1
    have HB := Lib.hid hb
    have Z5 := Lib.hid B5.size
    clear hown5 hend5 hg hb hown B5 E1 ez
    go_wp2
    go_loopw [6] (fun i wr => ∃ k : Nat, k ≤ l.length ∧ i = .int .i64 k ∧ Below (w.heap.size + 1) w5 wr ∧ Hid (BoolsAt wr g n (beh f (l.take k)))) (fun i _ => l.length - (intOf i).toNat)
    case atStart => exact ⟨0, Nat.zero_le _, rfl, Below.refl _ _, HB⟩
    case round =>
      obtain ⟨k, hk, rfl, hbe, D⟩ := hrel
      have F6 : Ext w wr := F5.trans' hbe (by omega)
      have d1 := cellB hbe (p := ⟨w.heap.size, 0, none⟩) (by show w.heap.size < _; omega) e1
      clear HB
      by_cases hlt : k < l.length
      · obtain ⟨b, off, ha, p1, p2⟩ := HC.out.ext F6 k hlt
        subst ha
        have hkn := HK.out k hlt
        have HB := Lib.hid (beh_take f l hlt)
        generalize l.getD k stk0 = y at p1 p2 hkn HB
        obtain ⟨ya, yo⟩ := y
        dsimp only at p1 p2 hkn HB
        obtain ⟨g0, g6⟩ := hkn
        obtain ⟨m1, m2⟩ := D.out ya.toNat (by omega)
        have hta : ya.toNat < n := by omega
        have z1 := cell_lt p1
        have z2 := cell_lt m1
        dsimp only at z1 z2
        have hG5 := G5.out
        have DN : Hid (BoolsAt (wr.setCell ⟨g, ya.toNat, none⟩ (.bool yo)).drew g n (beh f (l.take (k + 1)))) := by
          show BoolsAt _ _ _ _
          rw [HB.out]
          exact (D.out.set g0 g6 yo).ext (Ext.refl _).drew
        have BN : Below (w.heap.size + 1) w5 (wr.setCell ⟨g, ya.toNat, none⟩ (.bool yo)).drew := (hbe.setCell (p := ⟨g, ya.toNat, none⟩) hG5 _).drew
        go_wp2
        go_still_tail 14, (by kernel_rfl)
        go_wp2
        refine ⟨⟨k + 1, by omega, by go_num, BN, DN⟩, by simp [intOf]; omega⟩
      · have ht : l.take k = l := List.take_of_length_le (by omega)
        rw [ht] at D
        have hG5 := G5.out
        clear ht
        go_wp2
        go_ret
        exact ⟨g, c, rfl, D.out, by omega, F6⟩
theorem same_drop' {f : Int → Bool} {l : List Stk} {k : Nat} (h : k < l.length) {b : Bool} (e : anySame f (l.drop k) = b) : (f (l.getD k stk0).1 == (l.getD k stk0).2) = true ∧ b = true ∨ (f (l.getD k stk0).1 == (l.getD k stk0).2) = false ∧ anySame f (l.drop (k + 1)) = b := by
  have := same_drop h e
  cases c : (f (l.getD k stk0).1 == (l.getD k stk0).2)
  · rw [c, Bool.false_or] at this; exact .inr ⟨rfl, this⟩
  · rw [c, Bool.true_or] at this; exact .inl ⟨rfl, this.symm⟩
set_option maxHeartbeats 2000000 in
theorem SuitsR_any (l : List Stk) (wait : Int) (a : Option Addr) (cap : Nat) (n : Nat) (f : Int → Bool) (ea : Option Addr) (ec : Nat) (w : World) (hl : l.length ≤ maxLen) (hc : CellsK w a l) (_hn : n ≤ 6) (he : CellsB w ea n f) (hk : ∀ k, k < l.length → 0 ≤ (l.getD k stk0).1 ∧ (l.getD k stk0).1 < n) :
    Calls Tryd.prog 75 #[.agg #[.slice a l.length cap, .int .i64 wait], .slice ea n ec] w fun r w' => r = .returned (.bool (!anySame f l)) ∧ Ext w w' := by
  have HC := Lib.hid hc
  have HE := Lib.hid he
  have HK := Lib.hid hk
  clear hc he hk
  unfold maxLen at hl
  go_enter Tryd.func75, Tryd.ntmps75
  go_wp2
  have E1 : Ext w (w.alloc (.cells #[.slice a l.length cap, .int .i64 wait] 65)) := extA
  have e1 : (w.alloc (.cells #[.slice a l.length cap, .int .i64 wait] 65)).cell? ⟨w.heap.size, 0, none⟩ = some (.slice a l.length cap) := by go_simp
  generalize w.alloc (.cells #[.slice a l.length cap, .int .i64 wait] 65) = W at E1 e1 ⊢
  go_loopw [5] (fun i wr => ∃ k : Nat, k ≤ l.length ∧ i = .int .i64 k ∧ Hid (anySame f (l.drop k) = anySame f l) ∧ Ext W wr) (fun i _ => l.length - (intOf i).toNat)
  case atStart => exact ⟨0, Nat.zero_le _, rfl, by show _ = _; rfl, Ext.refl _⟩
  case round =>
    obtain ⟨k, hk, rfl, hz, he⟩ := hrel
    have d1 := he.cell e1
    have y1 := cell_lt d1
    dsimp only at y1
    by_cases hlt : k < l.length
    · obtain ⟨b, off, ha, p1, p2⟩ := HC.out.ext (E1.trans he) k hlt
      subst ha
      have hkn := HK.out k hlt
      have HZ := Lib.hid (same_drop' hlt hz.out)
      clear hz
      generalize l.getD k stk0 = y at p1 p2 hkn HZ
      obtain ⟨ya, yo⟩ := y
      dsimp only at p1 p2 hkn HZ
      obtain ⟨g0, g6⟩ := hkn
      obtain ⟨b', off', hb', m1⟩ := HE.out.ext (E1.trans he) ya.toNat (by omega)
      subst hb'
      rw [Int.toNat_of_nonneg g0] at m1
      have z1 := cell_lt p1
      have z2 := cell_lt m1
      dsimp only at z1 z2
      have hng : decide ((n : Int) ≤ ya) = false := by simp; omega
      rcases HZ.out with ⟨h1, h2⟩ | ⟨h1, h2⟩
      · have H2 := Lib.hid h2
        clear h2 HZ
        go_wp2
        go_quiet (fail)
        go_wp2
        go_ret
        exact ⟨ret_bool (by rw [H2.out]; rfl), extA⟩
      · have H2 := Lib.hid h2
        clear h2 HZ
        go_wp2
        go_quiet (fail)
        go_wp2
        refine ⟨⟨k + 1, by omega, by go_num, H2, extA⟩, by simp [intOf]; omega⟩
    · have hz1 := hz.out
      rw [List.drop_eq_nil_of_le (by omega)] at hz1
      have H2 := Lib.hid hz1
      clear hz1 hz
      go_wp2
      go_ret
      exact ⟨ret_bool (by rw [← H2.out]; rfl), extA⟩
def wayL (a : Int) : List Stk → Int
  | [] => 0
  | y :: l => if y.1 = a then (if y.2 then 1 else -1) else wayL a l
theorem wayL_drop {a : Int} {l : List Stk} {k : Nat} (h : k < l.length) {r : Int} (e : wayL a (l.drop k) = r) : ((l.getD k stk0).1 = a ∧ r = if (l.getD k stk0).2 then 1 else -1) ∨ (((l.getD k stk0).1 == a) = false ∧ wayL a (l.drop (k + 1)) = r) := by
  rw [drop_cons l stk0 h] at e
  unfold wayL at e
  by_cases c : (l.getD k stk0).1 = a
  · rw [if_pos c] at e; exact .inl ⟨c, e.symm⟩
  · rw [if_neg c] at e; exact .inr ⟨by simpa using c, e⟩
set_option maxHeartbeats 2000000 in
theorem WayR_any (l : List Stk) (wait : Int) (x : Int) (a : Option Addr) (cap : Nat) (w : World) (hl : l.length ≤ maxLen) (hc : CellsK w a l) :
    Calls Tryd.prog 77 #[.agg #[.slice a l.length cap, .int .i64 wait], .int .i64 x] w fun r w' => r = .returned (.int .i64 (wayL x l)) ∧ Ext w w' := by
  have HC := Lib.hid hc
  clear hc
  unfold maxLen at hl
  go_enter Tryd.func77, Tryd.ntmps77
  go_wp2
  have E1 : Ext w (w.alloc (.cells #[.slice a l.length cap, .int .i64 wait] 65)) := extA
  have e1 : (w.alloc (.cells #[.slice a l.length cap, .int .i64 wait] 65)).cell? ⟨w.heap.size, 0, none⟩ = some (.slice a l.length cap) := by go_simp
  generalize w.alloc (.cells #[.slice a l.length cap, .int .i64 wait] 65) = W at E1 e1 ⊢
  go_loopw [5] (fun i wr => ∃ k : Nat, k ≤ l.length ∧ i = .int .i64 k ∧ Hid (wayL x (l.drop k) = wayL x l) ∧ Ext W wr) (fun i _ => l.length - (intOf i).toNat)
  case atStart => exact ⟨0, Nat.zero_le _, rfl, by show _ = _; rfl, Ext.refl _⟩
  case round =>
    obtain ⟨k, hk, rfl, hz, he⟩ := hrel
    have d1 := he.cell e1
    by_cases hlt : k < l.length
    · obtain ⟨b, off, ha, p1, p2⟩ := HC.out.ext (E1.trans he) k hlt
      subst ha
      have HZ := Lib.hid (wayL_drop hlt hz.out)
      clear hz
      generalize l.getD k stk0 = y at p1 p2 HZ
      obtain ⟨ya, yo⟩ := y
      dsimp only at p1 p2 HZ
      have z1 := cell_lt p1
      dsimp only at z1
      rcases HZ.out with ⟨h1, h2⟩ | ⟨h1, h2⟩
      · subst h1
        have H2 := Lib.hid h2
        clear h2 HZ
        cases yo
        · go_wp2
          go_ret
          exact ⟨ret_int (by rw [H2.out]; rfl), extA⟩
        · go_wp2
          go_ret
          exact ⟨ret_int (by rw [H2.out]; rfl), extA⟩
      · have H2 := Lib.hid h2
        clear h2 HZ
        go_wp2
        refine ⟨⟨k + 1, by omega, by go_num, H2, extA⟩, by simp [intOf]; omega⟩
    · have hz1 := hz.out
      rw [List.drop_eq_nil_of_le (by omega)] at hz1
      have H2 := Lib.hid hz1
      clear hz1 hz
      go_wp2
      go_ret
      exact ⟨ret_int (by rw [← H2.out]; rfl), extA⟩
theorem wayL_moves (a : Int) (l : List Stk) : (wayL a l != 0) = movesL a l := by
  induction l with
  | nil => rfl
  | cons y l ih =>
    unfold wayL movesL
    rw [List.any_cons]
    by_cases c : y.1 = a
    · rw [if_pos c, c]
      cases y.2 <;> simp
    · have c' : (y.1 == a) = false := by simpa using c
      rw [if_neg c, c', Bool.false_or, ih]; rfl
end Go.Proofs.YtdolibeceijnnaaDoor
namespace Go.Proofs.YtdolibeceijnnaaDoor
open Go.RowKit
theorem makeBools (n : Nat) (hn : n ≤ 64) (w : World) : (Instr.makeSlice 59 (.int .i64 (n : Int)) (.int .i64 (n : Int))).run Tryd.prog w = .ok (.slice (some ⟨w.heap.size, 0, none⟩) n n) (w.alloc (.cells (madeCells #[.bool false] n) 4)) :=
  run_make_row' _ _ (.bool false) 1 Tryd.underlying59 infoBool rfl _ _ n (by omega) (by omega) w
theorem madeBools (w : World) (n : Nat) (t : TypeId) {p : Nat} (hp : w.heap.size = p) : BoolsAt (w.alloc (.cells (madeCells #[.bool false] n) t)) p n none6 := fun k hk => by
  subst hp
  refine ⟨?_, by simp [go_sem]⟩
  rw [World.cell?_alloc_new]
  simp [madeCells, hk, Nat.mod_one, none6]
theorem movedIn_drop {x : Int} {l : List Stp} {k : Nat} (h : k < l.length) {r : Bool} (e : movedIn x (l.drop k) = r) : ((wayL x (l.getD k stp0).1 != 0) = true ∧ r = true) ∨ ((wayL x (l.getD k stp0).1 != 0) = false ∧ movedIn x (l.drop (k + 1)) = r) := by
  rw [drop_cons l stp0 h] at e
  unfold movedIn at e
  rw [List.any_cons] at e
  rw [wayL_moves]
  have : movesIn x (l.getD k stp0) = movesL x (l.getD k stp0).1 := rfl
  rw [this] at e
  cases c : movesL x (l.getD k stp0).1
  · rw [c, Bool.false_or] at e; exact .inr ⟨rfl, e⟩
  · rw [c, Bool.true_or] at e; exact .inl ⟨rfl, e.symm⟩
set_option maxHeartbeats 2000000 in
theorem movesR_any (n : Value) (l : List Stp) (x : Int) (a : Option Addr) (cap : Nat) (w : World) (hl : l.length ≤ maxLen) (hc : CellsP w a l) :
    Calls Tryd.prog 54 #[.agg #[n, .slice a l.length cap], .int .i64 x] w fun r w' => r = .returned (.bool (movedIn x l)) ∧ Ext w w' := by
  have HC := Lib.hid hc
  clear hc
  unfold maxLen at hl
  go_enter Tryd.func54, Tryd.ntmps54
  go_wp2
  have E1 : Ext w (w.alloc (.cells #[n, .slice a l.length cap] 24)) := extA
  have e1 : (w.alloc (.cells #[n, .slice a l.length cap] 24)).cell? ⟨w.heap.size, 1, none⟩ = some (.slice a l.length cap) := by go_simp
  generalize w.alloc (.cells #[n, .slice a l.length cap] 24) = W at E1 e1 ⊢
  go_loopw [5] (fun i wr => ∃ k : Nat, k ≤ l.length ∧ i = .int .i64 k ∧ Hid (movedIn x (l.drop k) = movedIn x l) ∧ Ext W wr) (fun i _ => l.length - (intOf i).toNat)
  case atStart => exact ⟨0, Nat.zero_le _, rfl, by show _ = _; rfl, Ext.refl _⟩
  case round =>
    obtain ⟨k, hk, rfl, hz, he⟩ := hrel
    have d1 := he.cell e1
    by_cases hlt : k < l.length
    · obtain ⟨b, off, v, ha, p1, hv, p2⟩ := HC.out.ext (E1.trans he) k hlt
      subst ha
      obtain ⟨sa, sc, rfl, hcs, hls⟩ := hv
      have HZ := Lib.hid (movedIn_drop hlt hz.out)
      have HCS := Lib.hid hcs
      have HLS := Lib.hid hls
      clear hz hcs hls
      generalize l.getD k stp0 = y at p1 p2 HCS HLS HZ
      obtain ⟨st, wait⟩ := y
      dsimp only at p1 p2 HCS HLS HZ
      have z1 := cell_lt p1
      dsimp only at z1
      rcases HZ.out with ⟨h1, h2⟩ | ⟨h1, h2⟩
      · have H2 := Lib.hid h2
        have H1 := Lib.hid h1
        clear h1 h2 HZ
        go_wp2_with fail
        refine (WayR_any st wait x sa sc _ HLS.out HCS.out).mono ?_
        rintro r w2 ⟨rfl, hE⟩
        have h1 := H1.out
        go_wp2
        go_ret
        exact ⟨ret_bool H2.out.symm, extA⟩
      · have H2 := Lib.hid h2
        have H1 := Lib.hid h1
        clear h1 h2 HZ
        go_wp2_with fail
        refine (WayR_any st wait x sa sc _ HLS.out HCS.out).mono ?_
        rintro r w2 ⟨rfl, hE⟩
        have h1 := H1.out
        go_wp2
        refine ⟨⟨k + 1, by omega, by go_num, H2, extA⟩, by simp [intOf]; omega⟩
    · have hz1 := hz.out
      rw [List.drop_eq_nil_of_le (by omega)] at hz1
      have H2 := Lib.hid hz1
      clear hz1 hz
      go_wp2
      go_ret
      exact ⟨ret_bool (by rw [← H2.out]; rfl), extA⟩
def Fine (n : Int) (l : List Stp) : Prop := ∀ k, k < l.length → ckStep (l.getD k stp0) = 0 ∧ ∀ j, j < (l.getD k stp0).1.length → 0 ≤ ((l.getD k stp0).1.getD j stk0).1 ∧ ((l.getD k stp0).1.getD j stk0).1 < n
theorem ckFit_fine {n : Int} {x : Stp} {e : Int → Bool} (h : ckFit n x e = 0) : ∀ j, j < x.1.length → 0 ≤ (x.1.getD j stk0).1 ∧ (x.1.getD j stk0).1 < n := fun j hj => by
  have hk := ckFit_ok h
  refine ⟨(ckStep_known hk.1 j hj).1, ?_⟩
  have h2 := hk.2.1
  unfold anyHigh at h2
  rw [List.any_eq_false] at h2
  have := h2 (x.1.getD j stk0) (by rw [List.getD_eq_getElem?_getD, List.getElem?_eq_getElem hj]; exact List.getElem_mem hj)
  simp at this
  exact this
theorem ckWalk_fine {n : Int} {l : List Stp} {e : Int → Bool} (h : ckWalk n e l = 0) : Fine n l := by
  induction l generalizing e with
  | nil => intro k hk; simp at hk
  | cons x l ih =>
    have hc := ckWalk_cons h
    by_cases hf : ckFit n x e = 0
    · intro k hk
      cases k with
      | zero => exact ⟨(ckFit_ok hf).1, ckFit_fine hf⟩
      | succ k => exact ih (hc.2 hf) k (by simpa using hk)
    · exact absurd (hc.1 hf).symm hf
end Go.Proofs.YtdolibeceijnnaaDoor
namespace Go.Proofs.YtdolibeceijnnaaDoor
open Go.RowKit
theorem CellsB.at {w : World} {p n : Nat} {f : Int → Bool} (h : BoolsAt w p n f) {k : Nat} (hk : k < n) : w.cell? ⟨p, k, none⟩ = some (.bool (f k)) := (h k hk).1
def stepsE (n : Int) (l : List Stp) : Int := if ckWalk n none6 l ≠ 0 then ckWalk n none6 l else if (ints n).any (behAll none6 l) then 9 else 0
theorem ints_any_of {n : Nat} {f : Int → Bool} {k : Nat} (hk : k < n) (h : f k = true) : (ints (n : Int)).any f = true := by
  unfold ints
  rw [List.any_map, Int.toNat_natCast]
  exact List.any_eq_true.2 ⟨k, List.mem_range.2 hk, h⟩
theorem ints_any_none {n : Nat} {f : Int → Bool} (h : ∀ k : Nat, k < n → f k = false) : (ints (n : Int)).any f = false := by
  unfold ints
  rw [List.any_map, Int.toNat_natCast, List.any_eq_false]
  intro k hk
  simp [h k (List.mem_range.1 hk)]
set_option maxHeartbeats 4000000 in
set_option maxRecDepth 100000 in
theorem stepsR_any (n : Nat) (l : List Stp) (a : Option Addr) (cap : Nat) (w : World) (hl : l.length ≤ maxLen) (hc : CellsP w a l) (h0 : 0 < n) (hn : n ≤ 6) :
    Calls Tryd.prog 53 #[.agg #[.int .i64 (n : Int), .slice a l.length cap]] w fun r w' => r = .returned (.int .i64 (stepsE n l)) ∧ Ext w w' := by
  have HC := Lib.hid hc
  clear hc
  unfold maxLen at hl
  have hmk := makeBools n (by omega)
  go_enter Tryd.func53, Tryd.ntmps53
  go_wp2
  have E1 : Ext w ((w.alloc (.cells #[.int .i64 (n : Int), .slice a l.length cap] 24)).alloc (.cells (madeCells #[.bool false] n) 4)) := extA
  have e0 : ((w.alloc (.cells #[.int .i64 (n : Int), .slice a l.length cap] 24)).alloc (.cells (madeCells #[.bool false] n) 4)).cell? ⟨w.heap.size, 0, none⟩ = some (.int .i64 (n : Int)) := by go_simp
  have e1 : ((w.alloc (.cells #[.int .i64 (n : Int), .slice a l.length cap] 24)).alloc (.cells (madeCells #[.bool false] n) 4)).cell? ⟨w.heap.size, 1, none⟩ = some (.slice a l.length cap) := by go_simp
  have hb : BoolsAt ((w.alloc (.cells #[.int .i64 (n : Int), .slice a l.length cap] 24)).alloc (.cells (madeCells #[.bool false] n) 4)) (w.heap.size + 1) n none6 := madeBools _ n _ (by simp)
  have HB := Lib.hid hb
  clear hb hmk
  generalize ((w.alloc (.cells #[.int .i64 (n : Int), .slice a l.length cap] 24)).alloc (.cells (madeCells #[.bool false] n) 4)) = W at E1 e0 e1 HB ⊢
  go_loopw [4, 3] (fun i v wr => ∃ k : Nat, k ≤ l.length ∧ i = .int .i64 k ∧ (∃ g c, v = .slice (some ⟨g, 0, none⟩) n c ∧ Hid (BoolsAt wr g n (behAll none6 (l.take k)))) ∧ Hid (ckWalk n (behAll none6 (l.take k)) (l.drop k) = ckWalk n none6 l) ∧ Ext W wr) (fun i _ _ => l.length - (intOf i).toNat)
  case atStart => exact ⟨0, Nat.zero_le _, rfl, ⟨w.heap.size + 1, n, rfl, HB⟩, by show _ = _; rfl, Ext.refl _⟩
  case round =>
    obtain ⟨k, hk, rfl, ⟨g, c, rfl, D⟩, hz, he⟩ := hrel
    clear HB
    have d0 := he.cell e0
    have d1 := he.cell e1
    have y1 := cell_lt d1
    dsimp only at y1
    by_cases hlt : k < l.length
    · obtain ⟨b, off, v, ha, p1, hv, p2⟩ := HC.out.ext (E1.trans he) k hlt
      subst ha
      obtain ⟨sa, sc, rfl, hcs, hls⟩ := hv
      have hz1 := hz.out
      rw [drop_cons l stp0 hlt] at hz1
      have HZ := Lib.hid (ckWalk_cons hz1)
      have HT := Lib.hid (behAll_take none6 l hlt)
      have HCS := Lib.hid hcs
      have HLS := Lib.hid hls
      clear hcs hls hz1 hz
      generalize l.getD k stp0 = y at p1 p2 HCS HLS HZ HT
      obtain ⟨st, wait⟩ := y
      dsimp only at p1 p2 HCS HLS HZ HT
      generalize hee : behAll none6 (l.take k) = ee at D HZ HT
      have HEE := Lib.hid hee
      clear hee
      have z1 := cell_lt p1
      dsimp only at z1
      go_wp2_with fail
      have F1 : Ext w (wr.alloc (.cells #[.slice sa st.length sc, .int .i64 wait] 65)) := extA
      have f0 := ((Ext.refl wr).alloc (.cells #[.slice sa st.length sc, .int .i64 wait] 65)).cell d0
      have f1 : (wr.alloc (.cells #[.slice sa st.length sc, .int .i64 wait] 65)).cell? ⟨wr.heap.size, 0, none⟩ = some (.slice sa st.length sc) := by go_simp
      have f2 : (wr.alloc (.cells #[.slice sa st.length sc, .int .i64 wait] 65)).cell? ⟨wr.heap.size, 1, none⟩ = some (.int .i64 wait) := by go_simp
      have ER : Ext wr (wr.alloc (.cells #[.slice sa st.length sc, .int .i64 wait] 65)) := extA
      generalize wr.alloc (.cells #[.slice sa st.length sc, .int .i64 wait] 65) = W1 at F1 ER f0 f1 f2 ⊢
      refine (CheckStepR_any st wait sa sc _ HLS.out (HCS.out.ext ER)).mono ?_
      rintro r w2 ⟨rfl, hE⟩
      have F2 := ER.trans hE
      have f0 := hE.cell f0
      have f1 := hE.cell f1
      have f2 := hE.cell f2
      have HLS6 := HLS.out
      unfold maxLen at HLS6
      by_cases h1 : ckStep (st, wait) = 0
      · rw [h1]
        have HFIT : Hid (ckFit n (st, wait) ee = if anyHigh n st then 6 else if anySame ee st then 14 else 0) := by show _ = _; unfold ckFit; rw [if_neg (by simp [h1])]
        have HS := Lib.hid (ckStep_known h1)
        have h6 : st.length ≤ 6 := (ckStep_strokes h1).2.1
        clear h1
        go_wp2
        obtain ⟨wo, rfl⟩ : ∃ wo : World, wo = wr := ⟨_, rfl⟩
        go_loopw [7] (fun j wr => ∃ q : Nat, q ≤ st.length ∧ j = .int .i64 q ∧ Hid (anyHigh n (st.drop q) = anyHigh n st) ∧ Hid (∀ i, i < q → (st.getD i stk0).1 < n) ∧ Ext w2 wr) (fun j _ => st.length - (intOf j).toNat)
        case atStart => exact ⟨0, Nat.zero_le _, rfl, by show _ = _; rfl, fun i hi => by omega, Ext.refl _⟩
        case round =>
          obtain ⟨q, hq, rfl, hzq, hlow, he2⟩ := hrel
          have g0 := he2.cell f0
          have g1 := he2.cell f1
          have g2 := he2.cell f2
          have FW := F2.trans he2
          by_cases hltq : q < st.length
          · obtain ⟨b', off', ha', q1, q2⟩ := HCS.out.ext FW q hltq
            subst ha'
            have HQ := Lib.hid (high_drop hltq hzq.out)
            have HY : Hid (∀ x, (st.getD q stk0).1 = x → x < n → ∀ i, i < q + 1 → (st.getD i stk0).1 < n) := fun x hx hxn i hi => by
              rcases Nat.lt_or_eq_of_le (Nat.le_of_lt_succ hi) with h | rfl
              · exact hlow.out i h
              · rw [hx]; exact hxn
            clear hzq
            generalize st.getD q stk0 = y at q1 q2 HQ HY
            obtain ⟨ya, yo⟩ := y
            dsimp only at q1 q2 HQ HY
            have zq := cell_lt q1
            dsimp only at zq
            by_cases hh : (n : Int) ≤ ya
            · have HR : Hid (stepsE n l = 6) := by
                show _ = _
                have h := HQ.out
                rw [decide_eq_true hh, Bool.true_or] at h
                have hf := HFIT.out
                rw [if_pos h.symm] at hf
                have h3 := HZ.out.1 (by rw [hf]; decide)
                unfold stepsE
                rw [h3, hf]; rfl
              clear HQ
              go_wp2
              go_quiet (fail)
              go_wp2
              go_ret
              exact ⟨ret_int HR.out.symm, extA⟩
            · have HQ2 : Hid (anyHigh n (st.drop (q + 1)) = anyHigh n st) := by
                show _ = _
                have h := HQ.out
                rw [decide_eq_false hh, Bool.false_or] at h
                exact h
              have HL2 : Hid (∀ i, i < q + 1 → (st.getD i stk0).1 < n) := HY.out ya rfl (by omega)
              clear HQ
              go_wp2
              go_quiet (fail)
              go_wp2
              refine ⟨⟨q + 1, by omega, by go_num, HQ2, HL2, extA⟩, by simp [intOf]; omega⟩
          · have hqe : q = st.length := by omega
            have HFL : Hid (∀ j, j < st.length → 0 ≤ (st.getD j stk0).1 ∧ (st.getD j stk0).1 < n) := fun j hj => ⟨(HS.out j hj).1, hlow.out j (by omega)⟩
            have HF3 : Hid (ckFit n (st, wait) ee = if anySame ee st then 14 else 0) := by
              show _ = _
              have h := hzq.out
              rw [List.drop_eq_nil_of_le (by omega)] at h
              rw [HFIT.out, ← h]; rfl
            clear hzq hlow HFIT hqe
            cases hsame : anySame ee st
            · have HF4 : Hid (ckFit n (st, wait) ee = 0) := by show _ = _; rw [HF3.out, hsame]; rfl
              have HSM := Lib.hid hsame
              clear hsame HF3
              go_wp2_with fail
              refine (SuitsR_any st wait sa sc n ee _ c _ HLS.out (HCS.out.ext FW) hn (D.out.ext FW).cells HFL.out).mono ?_
              rintro r w3 ⟨rfl, hE3⟩
              rw [HSM.out]
              have g1 := hE3.cell g1
              have g2 := hE3.cell g2
              have FW3 := FW.trans hE3
              go_wp2_with fail
              refine (AfterR_any st wait sa sc n ee g 0 c _ HLS.out (HCS.out.ext FW3) hn h0 (D.out.ext FW3).cells HFL.out).mono ?_
              rintro r w4 ⟨g4, c4, rfl, hb4, hg4, hE4⟩
              have DN : Hid (BoolsAt w4 g4 n (behAll none6 (l.take (k + 1)))) := by show BoolsAt _ _ _ _; rw [HT.out]; exact hb4
              have ZN : Hid (ckWalk n (behAll none6 (l.take (k + 1))) (l.drop (k + 1)) = ckWalk n none6 l) := by show _ = _; rw [HT.out]; exact HZ.out.2 HF4.out
              clear hb4 D
              go_wp2
              refine ⟨⟨k + 1, by omega, by go_num, ⟨g4, c4, rfl, DN⟩, ZN, extA⟩, by simp [intOf]; omega⟩
            · have HR : Hid (stepsE n l = 14) := by
                show _ = _
                have hf := HF3.out
                rw [if_pos hsame] at hf
                have h3 := HZ.out.1 (by rw [hf]; decide)
                unfold stepsE
                rw [h3, hf]; rfl
              have HSM := Lib.hid hsame
              clear hsame HF3
              go_wp2_with fail
              refine (SuitsR_any st wait sa sc n ee _ c _ HLS.out (HCS.out.ext FW) hn (D.out.ext FW).cells HFL.out).mono ?_
              rintro r w3 ⟨rfl, hE3⟩
              rw [HSM.out]
              go_wp2
              go_ret
              exact ⟨ret_int HR.out.symm, extA⟩
      · have h1' : (ckStep (st, wait) != 0) = true := by simp [h1]
        have HR : Hid (stepsE n l = ckStep (st, wait)) := by
          show _ = _
          have hf : ckFit n (st, wait) ee = ckStep (st, wait) := by unfold ckFit; rw [if_pos h1]
          have h3 := HZ.out.1 (by rw [hf]; exact h1)
          unfold stepsE
          rw [h3, hf, if_pos h1]
        clear h1
        generalize ckStep (st, wait) = cs at h1' HR
        go_wp2
        go_ret
        exact ⟨ret_int HR.out.symm, extA⟩
    · have hlt' : l.take k = l := List.take_of_length_le (by omega)
      have hz1 := hz.out
      rw [List.drop_eq_nil_of_le (by omega)] at hz1
      have HE : Hid (stepsE n l = if (ints n).any (behAll none6 l) then 9 else 0) := by
        show _ = _
        unfold stepsE
        rw [← hz1]; rfl
      rw [hlt'] at D
      clear hz1 hz hlt'
      generalize behAll none6 l = ee at D HE
      go_wp2
      obtain ⟨wo, rfl⟩ : ∃ wo : World, wo = wr := ⟨_, rfl⟩
      go_loopw [8] (fun j wr => ∃ q : Nat, q ≤ n ∧ j = .int .i64 q ∧ Hid (∀ i : Nat, i < q → ee i = false) ∧ wo = wr) (fun j _ => n - (intOf j).toNat)
      case atStart => exact ⟨0, Nat.zero_le _, rfl, fun i hi => by omega, rfl⟩
      case round =>
        obtain ⟨q, hq, rfl, hlow, rfl⟩ := hrel
        by_cases hltq : q < n
        · have m1 := (D.out q hltq).1
          cases hq1 : ee q
          · have HN : Hid (∀ i : Nat, i < q + 1 → ee i = false) := fun i hi => by
              rcases Nat.lt_or_eq_of_le (Nat.le_of_lt_succ hi) with h | rfl
              · exact hlow.out i h
              · exact hq1
            rw [hq1] at m1
            clear hq1
            go_wp2
            refine ⟨⟨q + 1, by omega, by go_num, HN, trivial⟩, by simp [intOf]; omega⟩
          · have HR : Hid (stepsE n l = 9) := by show _ = _; rw [HE.out, if_pos (ints_any_of hltq hq1)]
            rw [hq1] at m1
            clear hq1
            go_wp2
            go_ret
            exact ⟨ret_int HR.out.symm, extA⟩
        · have HR : Hid (stepsE n l = 0) := by
            show _ = _
            rw [HE.out, ints_any_none (fun i hi => hlow.out i (by omega))]; rfl
          go_wp2
          go_ret
          exact ⟨ret_int HR.out.symm, extA⟩
set_option maxHeartbeats 4000000 in
theorem CheckR_any (n : Int) (l : List Stp) (a : Option Addr) (cap : Nat) (w : World) (hl : l.length ≤ maxLen) (hc : CellsP w a l) :
    Calls Tryd.prog 26 #[.agg #[.int .i64 n, .slice a l.length cap]] w fun r w' => r = .returned (.int .i64 (ckSeq (n, l))) ∧ Ext w w' := by
  have HC := Lib.hid hc
  have HL := Lib.hid hl
  unfold maxLen at hl
  clear hc
  by_cases h1 : n < 1
  · have hf : Hid (ckSeq (n, l) = 2) := by show _ = _; unfold ckSeq; rw [if_pos (Or.inl h1)]
    go_enter Tryd.func26, Tryd.ntmps26
    go_wp2
    all_goals go_ret
    all_goals exact ⟨ret_int hf.out.symm, extA⟩
  by_cases h2 : 6 < n
  · have hf : Hid (ckSeq (n, l) = 2) := by show _ = _; unfold ckSeq; rw [if_pos (Or.inr h2)]
    go_enter Tryd.func26, Tryd.ntmps26
    go_wp2
    all_goals go_ret
    all_goals exact ⟨ret_int hf.out.symm, extA⟩
  by_cases h0 : l.length = 0
  · have hf : Hid (ckSeq (n, l) = 13) := by show _ = _; unfold ckSeq; rw [if_neg (by dsimp only; omega), if_pos h0]
    have h0' : ((l.length : Int) == 0) = true := by simp [h0]
    have h0b : (l.length == 0) = true := by simp [h0]
    go_enter Tryd.func26, Tryd.ntmps26
    go_wp2
    all_goals go_ret
    all_goals exact ⟨ret_int hf.out.symm, extA⟩
  have h0' : ((l.length : Int) == 0) = false := beq_eq_false_iff_ne.2 (by omega)
  have h0b : (l.length == 0) = false := beq_eq_false_iff_ne.2 h0
  by_cases h6 : 64 < l.length
  · have hf : Hid (ckSeq (n, l) = 5) := by show _ = _; unfold ckSeq; rw [if_neg (by dsimp only; omega), if_neg h0, if_pos h6]
    go_enter Tryd.func26, Tryd.ntmps26
    go_wp2
    all_goals go_ret
    all_goals exact ⟨ret_int hf.out.symm, extA⟩
  obtain ⟨N, rfl⟩ := Int.eq_ofNat_of_zero_le (show 0 ≤ n by omega)
  have hf : Hid (ckSeq ((N : Int), l) = if stepsE N l ≠ 0 then stepsE N l else if (ints N).any (fun a => !movedIn a l) then 13 else 0) := by
    show _ = _
    unfold ckSeq stepsE
    rw [if_neg (by dsimp only; omega), if_neg h0, if_neg h6]
    dsimp only
    by_cases c1 : ckWalk N none6 l ≠ 0
    · rw [if_pos c1, if_pos c1, if_pos c1]
    · rw [if_neg c1, if_neg c1]
      by_cases c2 : (ints N).any (behAll none6 l) = true
      · rw [if_pos c2, if_pos c2]; rfl
      · rw [if_neg c2, if_neg c2]; rfl
  clear h0
  have hN1 : 0 < N := by omega
  have hN6 : N ≤ 6 := by omega
  go_enter Tryd.func26, Tryd.ntmps26
  go_wp2_with fail
  have E1 : Ext w (w.alloc (.cells #[.int .i64 (N : Int), .slice a l.length cap] 24)) := extA
  have e0 : (w.alloc (.cells #[.int .i64 (N : Int), .slice a l.length cap] 24)).cell? ⟨w.heap.size, 0, none⟩ = some (.int .i64 (N : Int)) := by go_simp
  have e1 : (w.alloc (.cells #[.int .i64 (N : Int), .slice a l.length cap] 24)).cell? ⟨w.heap.size, 1, none⟩ = some (.slice a l.length cap) := by go_simp
  generalize w.alloc (.cells #[.int .i64 (N : Int), .slice a l.length cap] 24) = W at E1 e0 e1 ⊢
  refine (stepsR_any N l a cap _ HL.out (HC.out.ext E1) hN1 hN6).mono ?_
  rintro r w2 ⟨rfl, hE⟩
  have F2 := E1.trans hE
  have e0 := hE.cell e0
  have e1 := hE.cell e1
  by_cases hs : stepsE N l = 0
  · have HF : Hid (ckSeq ((N : Int), l) = if (ints N).any (fun a => !movedIn a l) then 13 else 0) := by show _ = _; rw [hf.out, if_neg (by simp [hs])]
    rw [hs]
    clear hs hf
    go_wp2
    go_loopw [4] (fun j wr => ∃ q : Nat, q ≤ N ∧ j = .int .i64 q ∧ Hid (∀ i : Nat, i < q → movedIn i l = true) ∧ Ext w2 wr) (fun j _ => N - (intOf j).toNat)
    case atStart => exact ⟨0, Nat.zero_le _, rfl, fun i hi => by omega, Ext.refl _⟩
    case round =>
      obtain ⟨q, hq, rfl, hlow, he⟩ := hrel
      have g0 := he.cell e0
      have g1 := he.cell e1
      by_cases hltq : q < N
      · cases hm : movedIn q l
        · have HR : Hid (ckSeq ((N : Int), l) = 13) := by show _ = _; rw [HF.out, if_pos (ints_any_of hltq (by simp [hm]))]
          have HM := Lib.hid hm
          clear hm
          go_wp2_with fail
          refine (movesR_any _ l q a cap _ HL.out (HC.out.ext (F2.trans he))).mono ?_
          rintro r w3 ⟨rfl, hE3⟩
          rw [HM.out]
          go_wp2
          go_ret
          exact ⟨ret_int HR.out.symm, extA⟩
        · have HN : Hid (∀ i : Nat, i < q + 1 → movedIn i l = true) := fun i hi => by
            rcases Nat.lt_or_eq_of_le (Nat.le_of_lt_succ hi) with h | rfl
            · exact hlow.out i h
            · exact hm
          have HM := Lib.hid hm
          clear hm
          go_wp2_with fail
          refine (movesR_any _ l q a cap _ HL.out (HC.out.ext (F2.trans he))).mono ?_
          rintro r w3 ⟨rfl, hE3⟩
          rw [HM.out]
          go_wp2
          refine ⟨⟨q + 1, by omega, by go_num, HN, extA⟩, by simp [intOf]; omega⟩
      · have HR : Hid (ckSeq ((N : Int), l) = 0) := by
          show _ = _
          rw [HF.out, ints_any_none (fun i hi => by simp [hlow.out i (by omega)])]; rfl
        go_wp2
        go_ret
        exact ⟨ret_int HR.out.symm, extA⟩
  · have hs' : (stepsE N l != 0) = true := by simp [hs]
    have HR : Hid (ckSeq ((N : Int), l) = stepsE N l) := by show _ = _; rw [hf.out, if_pos hs]
    clear hs hf
    generalize stepsE N l = x at hs' HR ⊢
    go_wp2
    go_ret
    exact ⟨ret_int HR.out.symm, extA⟩
end Go.Proofs.YtdolibeceijnnaaDoor
namespace Go.Proofs.YtdolibeceijnnaaDoor
open Go.RowKit
theorem list_ext_getD {α : Type} (d : α) {l m : List α} (hl : l.length = m.length) (h : ∀ j, j < l.length → l.getD j d = m.getD j d) : l = m := by
  apply List.ext_getElem hl
  intro i h1 h2
  have := h i h1
  rw [List.getD_eq_getElem?_getD, List.getD_eq_getElem?_getD, List.getElem?_eq_getElem h1, List.getElem?_eq_getElem h2] at this
  simpa using this
end Go.Proofs.YtdolibeceijnnaaDoor
namespace Go.Proofs.YtdolibeceijnnaaDoor
open Go.RowKit
end Go.Proofs.YtdolibeceijnnaaDoor
namespace Go.Proofs.YtdolibeceijnnaaDoor
open Go.RowKit
def CellsI (w : World) (a : Option Addr) (l : List Int) : Prop := ∀ i, i < l.length → ∃ b off, a = some ⟨b, off, none⟩ ∧ w.cell? ⟨b, off + i, none⟩ = some (.int .i64 (l.getD i 0))
theorem CellsI.ext {w w' : World} {a : Option Addr} {l : List Int} (h : CellsI w a l) (he : Ext w w') : CellsI w' a l := fun i hi => by
  obtain ⟨b, off, h1, h2⟩ := h i hi
  exact ⟨b, off, h1, he.cell h2⟩
theorem CellsI.nil (w : World) (a : Option Addr) : CellsI w a [] := fun i hi => by simp at hi
set_option maxHeartbeats 2000000 in
theorem EqualInt_any (l m : List Int) (a b : Option Addr) (ca cb : Nat) (w : World) (hl : l.length ≤ maxLen) (hc : CellsI w a l) (hm : m.length ≤ maxLen) (hd : CellsI w b m) :
    Calls Tryd.prog 16 #[.slice a l.length ca, .slice b m.length cb] w fun r w' => r = .returned (.bool (decide (l = m))) ∧ Ext w w' := by
  have HC := Lib.hid hc
  have HD := Lib.hid hd
  clear hc hd
  unfold maxLen at hl hm
  by_cases hlen : l.length = m.length
  · have HLEN := Lib.hid hlen
    have hne : ((l.length : Int) != (m.length : Int)) = false := by simp [hlen]
    have hne2 : (l.length != m.length) = false := by simp [hlen]
    clear hlen
    go_enter Tryd.func16, Tryd.ntmps16
    go_wp2
    go_loopw [13] (fun i wr => ∃ k : Nat, k ≤ l.length ∧ i = .int .i64 k ∧ Hid (∀ j, j < k → l.getD j 0 = m.getD j 0) ∧ Ext w wr) (fun i _ => l.length - (intOf i).toNat)
    case atStart => exact ⟨0, Nat.zero_le _, rfl, fun j hj => by omega, Ext.refl _⟩
    case round =>
      obtain ⟨k, hk, rfl, hz, he⟩ := hrel
      by_cases hlt : k < l.length
      · have hlt2 : k < m.length := by have := HLEN.out; omega
        obtain ⟨b1, o1, ha1, p1⟩ := HC.out.ext he k hlt
        obtain ⟨b2, o2, ha2, q1⟩ := HD.out.ext he k hlt2
        subst ha1
        subst ha2
        by_cases hx : l.getD k 0 = m.getD k 0
        · have HN : Hid (∀ j, j < k + 1 → l.getD j 0 = m.getD j 0) := fun j hj => by
            rcases Nat.lt_or_eq_of_le (Nat.le_of_lt_succ hj) with h | rfl
            · exact hz.out j h
            · exact hx
          have hq : (l.getD k 0 != m.getD k 0) = false := by rw [hx]; simp
          clear hx hz
          generalize l.getD k 0 = x at p1 hq
          generalize m.getD k 0 = y at q1 hq
          go_wp2
          go_quiet (fail)
          go_wp2
          refine ⟨⟨k + 1, by omega, by go_num, HN, extA⟩, by simp [intOf]; omega⟩
        · have HN : Hid (decide (l = m) = false) := by
            show _ = _
            rw [decide_eq_false_iff_not]
            rintro rfl
            exact hx rfl
          have hq : (l.getD k 0 != m.getD k 0) = true := by rw [bne_iff_ne]; exact hx
          clear hx hz
          generalize l.getD k 0 = x at p1 hq
          generalize m.getD k 0 = y at q1 hq
          go_wp2
          go_quiet (fail)
          go_wp2
          go_ret
          exact ⟨ret_bool HN.out.symm, extA⟩
      · have HN : Hid (decide (l = m) = true) := by
          show _ = _
          rw [decide_eq_true_eq]
          exact list_ext_getD 0 HLEN.out (fun j hj => hz.out j (by omega))
        go_wp2
        go_ret
        exact ⟨ret_bool HN.out.symm, extA⟩
  · have hne : ((l.length : Int) != (m.length : Int)) = true := by rw [bne_iff_ne]; omega
    have hne2 : (l.length != m.length) = true := by rw [bne_iff_ne]; exact hlen
    have HN : Hid (decide (l = m) = false) := by
      show _ = _
      rw [decide_eq_false_iff_not]
      rintro rfl
      exact hlen rfl
    clear hlen
    go_enter Tryd.func16, Tryd.ntmps16
    go_wp2
    all_goals go_ret
    all_goals exact ⟨ret_bool HN.out.symm, extA⟩
end Go.Proofs.YtdolibeceijnnaaDoor
namespace Go.Proofs.YtdolibeceijnnaaDoor
open Go.RowKit
def sq0 : Sq := (0, [])
def CellsQ (w : World) (a : Option Addr) (l : List Sq) : Prop :=
  ∀ i, i < l.length → ∃ b off v, a = some ⟨b, off, none⟩ ∧ w.cell? ⟨b, off + i * 2, none⟩ = some (.int .i64 (l.getD i sq0).1) ∧ w.cell? ⟨b, off + i * 2 + 1, none⟩ = some v ∧ SliceP w v (l.getD i sq0).2
theorem CellsQ.ext {w w' : World} {a : Option Addr} {l : List Sq} (h : CellsQ w a l) (he : Ext w w') : CellsQ w' a l := fun i hi => by
  obtain ⟨b, off, v, h1, h2, h3, h4⟩ := h i hi
  exact ⟨b, off, v, h1, he.cell h2, he.cell h3, h4.ext he⟩
end Go.Proofs.YtdolibeceijnnaaDoor
namespace Go.Proofs.YtdolibeceijnnaaDoor
open Go.RowKit
def fewSt (l : List Stp) : Bool := l.all fun x => decide (x.1.length ≤ 40)
def fewB (l : List Stp) : Bool := decide (l.length ≤ 128) && fewSt l
theorem fewSt_drop {l : List Stp} {k : Nat} (h : k < l.length) {b : Bool} (e : fewSt (l.drop k) = b) : (40 < (l.getD k stp0).1.length ∧ b = false) ∨ ((l.getD k stp0).1.length ≤ 40 ∧ fewSt (l.drop (k + 1)) = b) := by
  rw [drop_cons l stp0 h] at e
  unfold fewSt at e
  rw [List.all_cons] at e
  by_cases c : (l.getD k stp0).1.length ≤ 40
  · rw [decide_eq_true c, Bool.true_and] at e; exact .inr ⟨c, e⟩
  · rw [decide_eq_false c, Bool.false_and] at e; exact .inl ⟨by omega, e.symm⟩
set_option maxHeartbeats 2000000 in
theorem Few_any (n : Value) (l : List Stp) (a : Option Addr) (cap : Nat) (w : World) (hl : l.length ≤ maxLen) (hc : CellsP w a l) :
    Calls Tryd.prog 25 #[.agg #[n, .slice a l.length cap]] w fun r w' => r = .returned (.bool (fewB l)) ∧ Ext w w' := by
  have HC := Lib.hid hc
  clear hc
  unfold maxLen at hl
  by_cases h1 : 128 < l.length
  · have HR : Hid (fewB l = false) := by show _ = _; unfold fewB; rw [decide_eq_false (by omega)]; rfl
    go_enter Tryd.func25, Tryd.ntmps25
    go_wp2
    all_goals go_ret
    all_goals exact ⟨ret_bool HR.out.symm, extA⟩
  · have HR : Hid (fewB l = fewSt l) := by show _ = _; unfold fewB; rw [decide_eq_true (by omega)]; rfl
    go_enter Tryd.func25, Tryd.ntmps25
    go_wp2
    have E1 : Ext w (w.alloc (.cells #[n, .slice a l.length cap] 24)) := extA
    have e1 : (w.alloc (.cells #[n, .slice a l.length cap] 24)).cell? ⟨w.heap.size, 1, none⟩ = some (.slice a l.length cap) := by go_simp
    generalize w.alloc (.cells #[n, .slice a l.length cap] 24) = W at E1 e1 ⊢
    go_loopw [3] (fun i wr => ∃ k : Nat, k ≤ l.length ∧ i = .int .i64 k ∧ Hid (fewSt (l.drop k) = fewSt l) ∧ Ext W wr) (fun i _ => l.length - (intOf i).toNat)
    case atStart => exact ⟨0, Nat.zero_le _, rfl, by show _ = _; rfl, Ext.refl _⟩
    case round =>
      obtain ⟨k, hk, rfl, hz, he⟩ := hrel
      have d1 := he.cell e1
      by_cases hlt : k < l.length
      · obtain ⟨b, off, v, ha, p1, hv, p2⟩ := HC.out.ext (E1.trans he) k hlt
        subst ha
        obtain ⟨sa, sc, rfl, hcs, hls⟩ := hv
        unfold maxLen at hls
        have HZ := fewSt_drop hlt hz.out
        clear hz hcs
        generalize l.getD k stp0 = y at p1 p2 hls HZ
        obtain ⟨st, wait⟩ := y
        dsimp only at p1 p2 hls HZ
        rcases HZ with ⟨g1, g2⟩ | ⟨g1, g2⟩
        · have G2 := Lib.hid g2
          clear g2
          go_wp2
          go_ret
          exact ⟨ret_bool (by rw [HR.out, G2.out]), extA⟩
        · have G2 := Lib.hid g2
          clear g2
          go_wp2
          refine ⟨⟨k + 1, by omega, by go_num, G2, extA⟩, by simp [intOf]; omega⟩
      · have hz1 := hz.out
        rw [List.drop_eq_nil_of_le (by omega)] at hz1
        have H2 := Lib.hid hz1
        clear hz1 hz
        go_wp2
        go_ret
        exact ⟨ret_bool (by rw [HR.out, ← H2.out]; rfl), extA⟩
def AnyPost (b : Bool) (w : World) (e : Ending) (w' : World) : Prop := ∃ r : Int, e = .returned (.int .i64 r) ∧ decide (0 ≤ r) = b ∧ Ext w w'
end Go.Proofs.YtdolibeceijnnaaDoor
namespace Go.Proofs.YtdolibeceijnnaaDoor
open Go.RowKit
attribute [local go_sem] Oper.semAt_some
theorem Kept.cell {Kd : Nat → Prop} {n : Nat} {A B : World} (h : Kept Kd n A B) {p : Addr} {v : Value} (hk : Kd p.block) (hc : A.cell? p = some v) : B.cell? p = some v := by
  have hlt := cell_lt hc
  obtain ⟨o, ho⟩ : ∃ o, A.heap[p.block]? = some o := ⟨_, Array.getElem?_eq_getElem hlt⟩
  have hr : isRec o = false := by
    cases o <;> simp [World.cell?, ho] at hc <;> rfl
  exact (World.cell?_of_block (w := A) ((h.2 _ _ hk ho (.inl hr)).trans ho.symm)).trans hc
theorem Kept.frozen {X : Nat → Prop} {n : Nat} {A B : World} (h : Kept X n A B) {p : Addr} {v : Value} (hk : X p.block) (hc : A.cell? p = some v) : B.frozen? p = A.frozen? p := by
  have hlt := cell_lt hc
  obtain ⟨o, ho⟩ : ∃ o, A.heap[p.block]? = some o := ⟨_, Array.getElem?_eq_getElem hlt⟩
  have hr : isRec o = false := by
    cases o <;> simp [World.cell?, ho] at hc <;> rfl
  exact World.frozen?_of_block (w := A) ((h.2 _ _ hk ho (.inl hr)).trans ho.symm)
theorem EndsAt.kept {Kd : Nat → Prop} {n p : Nat} {A B : World} {e : Int → Bool} (h : EndsAt A p e) (k : Kept Kd n A B) (hk : Kd p) : EndsAt B p e := fun i hi =>
  ⟨k.cell (p := ⟨p, i, none⟩) hk (h i hi).1, (k.frozen (p := ⟨p, i, none⟩) hk (h i hi).1).trans (h i hi).2⟩
theorem along_any (n : Int) (v : Value) (w : World) :
    Calls Tryd.prog 58 #[.agg #[.int .i64 n, v]] w fun e w' => e = .returned (.func (.func 80) #[] #[.pointer (some ⟨w.heap.size, 0, none⟩)]) ∧ w.alloc (.cells #[.int .i64 n, v] 24) = w' := by
  go_enter Tryd.func58, Tryd.ntmps58
  go_wp2
  go_ret
  exact ⟨rfl, rfl⟩
def alongEnc (l : List Stp) (k : Nat) : Array Value := #[.int .i64 (k : Int), endsV (behAll none6 (l.take k))]
def AlK (Md : Nat → Prop) (n k : Nat) : Prop := (k < n ∧ ¬ Md k) ∨ n ≤ k
theorem range_prefix {k m : Nat} (h : k < m) : List.range k ++ [k] <+: List.range m := by
  rw [← List.range_succ]
  have : List.range m = List.range (k + 1) ++ (List.range (m - (k + 1))).map (k + 1 + ·) := by
    rw [← List.range_add]; congr 1; omega
  rw [this]
  exact List.prefix_append _ _
def Old (A B : World) : Prop := ∀ (k : Nat) (o : Obj), A.heap[k]? = some o → isRec o = false → B.heap[k]? = some o
theorem Old.refl (A : World) : Old A A := fun _ _ h _ => h
theorem Old.ext {A B : World} (h : Ext A B) : Old A B := fun k o hk _ => by rw [Below.block h k (Array.getElem?_eq_some_iff.1 hk).1]; exact hk
theorem Old.trans {A B C : World} (h : Old A B) (k : Old B C) : Old A C := fun i o hi ho => k i o (h i o hi ho) ho
theorem Old.below {A B C : World} (h : Old A B) {n : Nat} (k : Below n B C) (hn : A.heap.size ≤ n) : Old A C := fun i o hi ho => by
  rw [Below.block k i (by have := (Array.getElem?_eq_some_iff.1 hi).1; omega)]; exact h i o hi ho
theorem Old.kept {A B C : World} {Md : Nat → Prop} {n : Nat} (h : Old A B) (k : Kept (AlK Md n) n B C) (hn : A.heap.size ≤ n) (hm : ∀ k, Md k → A.heap.size ≤ k) : Old A C := fun i o hi ho => by
  have hlt := (Array.getElem?_eq_some_iff.1 hi).1
  exact k.2 i o (.inl ⟨by omega, fun c => by have := hm i c; omega⟩) (h i o hi ho) (.inl ho)
theorem Old.cell {A B : World} (h : Old A B) {p : Addr} {v : Value} (hc : A.cell? p = some v) : B.cell? p = some v := by
  have hlt := cell_lt hc
  obtain ⟨o, ho⟩ : ∃ o, A.heap[p.block]? = some o := ⟨_, Array.getElem?_eq_getElem hlt⟩
  have hr : isRec o = false := by
    cases o <;> simp [World.cell?, ho] at hc <;> rfl
  exact (World.cell?_of_block (w := A) ((h _ _ ho hr).trans ho.symm)).trans hc
theorem CellsK.old {A B : World} {a : Option Addr} {l : List Stk} (h : CellsK A a l) (k : Old A B) : CellsK B a l := fun i hi => by
  obtain ⟨b, off, h1, h2, h3⟩ := h i hi
  exact ⟨b, off, h1, k.cell h2, k.cell h3⟩
theorem SliceK.old {A B : World} {v : Value} {l : List Stk} (h : SliceK A v l) (k : Old A B) : SliceK B v l := by
  obtain ⟨a, cap, h1, h2, h3⟩ := h
  exact ⟨a, cap, h1, h2.old k, h3⟩
theorem CellsP.old {A B : World} {a : Option Addr} {l : List Stp} (h : CellsP A a l) (k : Old A B) : CellsP B a l := fun i hi => by
  obtain ⟨b, off, v, h1, h2, h3, h4⟩ := h i hi
  exact ⟨b, off, v, h1, k.cell h2, h3.old k, k.cell h4⟩
def Own1 (n : Nat) (A B : World) : Prop := Below n A B ∧ ∀ k, k < A.heap.size → k ≠ n → B.heap[k]? = A.heap[k]?
theorem Own1.ext {n : Nat} {A B : World} (h : Ext A B) (hn : n ≤ A.heap.size) : Own1 n A B := ⟨h.mono hn, fun k hk _ => Below.block h k hk⟩
theorem Own1.six (n : Nat) (A : World) (f : Int → Bool) : Own1 n A ((((((A.setCell ⟨n, 0, none⟩ (.bool (f 0))).setCell ⟨n, 1, none⟩ (.bool (f 1))).setCell ⟨n, 2, none⟩ (.bool (f 2))).setCell ⟨n, 3, none⟩ (.bool (f 3))).setCell ⟨n, 4, none⟩ (.bool (f 4))).setCell ⟨n, 5, none⟩ (.bool (f 5))) :=
  ⟨((((((Below.refl _ _).setCell (p := ⟨n, 0, none⟩) (Nat.le_refl _) _).setCell (p := ⟨n, 1, none⟩) (Nat.le_refl _) _).setCell (p := ⟨n, 2, none⟩) (Nat.le_refl _) _).setCell (p := ⟨n, 3, none⟩) (Nat.le_refl _) _).setCell (p := ⟨n, 4, none⟩) (Nat.le_refl _) _).setCell (p := ⟨n, 5, none⟩) (Nat.le_refl _) _,
   fun k _ hne => by
    rw [Below.heap_setCell _ _ _ _ hne, Below.heap_setCell _ _ _ _ hne, Below.heap_setCell _ _ _ _ hne, Below.heap_setCell _ _ _ _ hne, Below.heap_setCell _ _ _ _ hne, Below.heap_setCell _ _ _ _ hne]⟩
set_option maxHeartbeats 4000000 in
set_option maxRecDepth 100000 in
theorem along1_iter (n : Int) (l : List Stp) (a : Option Addr) (cap : Nat) (w0 w : World) (sb : Nat) (Md : Nat → Prop) (hl : l.length ≤ 64) (hf : Fine n l)
    (hc : CellsP w0 a l) (E0 : Ext w0 w) (s2 : w.cell? ⟨sb, 1, none⟩ = some (.slice a l.length cap))
    (m1 : ¬ Md sb) (m2 : ∀ k, Md k → w0.heap.size ≤ k) :
    Iter Tryd.prog 80 #[.pointer (some ⟨sb, 0, none⟩)] (alongEnc l) (List.range (l.length + 1)) Own1 (AlK Md) 1 w := by
  intro y J Jx W hW hJ hJx hY h0
  have HF := Lib.hid hf
  have HC := Lib.hid hc
  have s2 := hW.cell s2
  have HY := Lib.hid hY
  have HJ := Lib.hid hJ
  have HM := Lib.hid m2
  have O0 := Lib.hid (Old.ext (E0.trans hW))
  have hsz : w0.heap.size ≤ W.heap.size := (E0.trans hW).size
  have zs : sb < W.heap.size := cell_lt s2
  clear hf hc hY hJ hJx hW m2 E0
  refine callsIn_of_wp Tryd.func80 rfl trivial ?_ rfl
  simp only [Tryd.ntmps80, List.size_toArray, List.length_cons, List.length_nil, Nat.reduceAdd, Nat.reduceSub, Array.replicate_succ, Array.replicate_zero, List.push_toArray, List.append_toArray, List.nil_append, List.cons_append]
  gi_wp2
  have E1 : Ext W (W.alloc (.cells #[.bool false, .bool false, .bool false, .bool false, .bool false, .bool false] 95)) := extA
  have D0 : EndsAt (W.alloc (.cells #[.bool false, .bool false, .bool false, .bool false, .bool false, .bool false] 95)) W.heap.size none6 := ends_new rfl none6
  have Z0 : W.heap.size + 1 ≤ (W.alloc (.cells #[.bool false, .bool false, .bool false, .bool false, .bool false, .bool false] 95)).heap.size := by simp
  generalize W.alloc (.cells #[.bool false, .bool false, .bool false, .bool false, .bool false, .bool false] 95) = W1 at E1 D0 Z0 ⊢
  have HD0 := Lib.hid D0
  have t2 := E1.cell s2
  have O1 := Lib.hid (O0.out.trans (Old.ext E1))
  clear D0 O0
  gi_loopw [9] (fun i wr => ∃ k : Nat, k ≤ l.length ∧ i = .int .i64 k ∧ Hid (J (List.range k) wr) ∧ W.heap.size + 1 ≤ wr.heap.size ∧ wr.cell? ⟨sb, 1, none⟩ = some (.slice a l.length cap) ∧ Hid (EndsAt wr W.heap.size (behAll none6 (l.take k))) ∧ Hid (Old w0 wr)) (fun i _ => l.length - (intOf i).toNat)
  case atStart => exact ⟨0, by omega, rfl, HJ.out _ _ _ h0 (Own1.ext E1 (Nat.le_refl _)), Z0, t2, HD0, O1⟩
  case round =>
    clear s2 t2 E1 Z0 h0 HD0 O1
    obtain ⟨k, hk, rfl, hj, hz, s2, D, O⟩ := hrel
    obtain ⟨⟨x0, x1, x2, x3, x4, x5⟩, g0, g1, g2, g3, g4, g5⟩ := D.out.six
    have zs' : sb < wr.heap.size := by omega
    have zn' : W.heap.size < wr.heap.size := by omega
    by_cases hlt : k < l.length
    · obtain ⟨b, off, v, ha, p1, hv, p2⟩ := HC.out k hlt
      subst ha
      obtain ⟨sa, sc, rfl, hcs, hls⟩ := hv
      have p1 := O.out.cell p1
      have p2 := O.out.cell p2
      have HFK := Lib.hid (HF.out k hlt)
      have HT := Lib.hid (behAll_take none6 l hlt)
      have HCS := Lib.hid hcs
      have HLS := Lib.hid hls
      have HENC : Hid (alongEnc l k = #[.int .i64 (k : Int), endsV (behAll none6 (l.take k))]) := by show _ = _; rfl
      have HPRE : Hid (List.range k ++ [k] <+: List.range (l.length + 1)) := range_prefix (by omega)
      clear hcs hls
      generalize l.getD k stp0 = x at p1 p2 HCS HLS HFK HT
      obtain ⟨st, wait⟩ := x
      dsimp only at p1 p2 HCS HLS HFK HT
      have z1 := cell_lt p1
      dsimp only at z1
      gi_wp2_with fail
      have E2 : Ext wr (wr.alloc (.cells #[.slice sa st.length sc, .int .i64 wait] 65)) := extA
      have f1 : (wr.alloc (.cells #[.slice sa st.length sc, .int .i64 wait] 65)).cell? ⟨wr.heap.size, 0, none⟩ = some (.slice sa st.length sc) := by go_simp
      have f2 : (wr.alloc (.cells #[.slice sa st.length sc, .int .i64 wait] 65)).cell? ⟨wr.heap.size, 1, none⟩ = some (.int .i64 wait) := by go_simp
      have D2 := Lib.hid (D.out.ext E2)
      have s2 := E2.cell s2
      have ON2 := Lib.hid (O.out.trans (Old.ext E2))
      have hz2 : W.heap.size + 1 ≤ (wr.alloc (.cells #[.slice sa st.length sc, .int .i64 wait] 65)).heap.size := by simp; omega
      have hbx : wr.heap.size < (wr.alloc (.cells #[.slice sa st.length sc, .int .i64 wait] 65)).heap.size := by simp
      have hj2 : Hid (J (List.range k) (wr.alloc (.cells #[.slice sa st.length sc, .int .i64 wait] 65))) := HJ.out _ _ _ hj.out (Own1.ext E2 (by omega))
      clear hj
      generalize wr.alloc (.cells #[.slice sa st.length sc, .int .i64 wait] 65) = w2 at E2 f1 f2 D2 s2 ON2 hz2 hbx hj2 ⊢
      have hyy := HY.out (List.range k) k w2 HPRE.out hz2 hj2.out
      unfold alongEnc endsV at hyy
      obtain ⟨fn, tmps, assign, body, hy, hR⟩ := hyy
      clear D O x0 x1 x2 x3 x4 x5 g0 g1 g2 g3 g4 g5 HENC
      rw [hy]
      gi_wp2
      refine ⟨rfl, hR.mono ?_⟩
      clear hy hR
      rintro e w3 (⟨rfl, hj3, hk3⟩ | ⟨rfl, hj3, hk3⟩)
      · have HJ3 := Lib.hid hj3
        have HK3 := Lib.hid hk3
        have O3 : Hid (Old w0 w3) := ON2.out.kept hk3 hsz HM.out
        have D3 : Hid (EndsAt w3 W.heap.size (behAll none6 (l.take k))) := D2.out.kept hk3 (.inr (Nat.le_refl _))
        have s3 := hk3.cell (p := ⟨sb, 1, none⟩) (.inl ⟨zs, m1⟩) s2
        have f1 := hk3.cell (p := ⟨wr.heap.size, 0, none⟩) (.inr (by show W.heap.size ≤ wr.heap.size; omega)) f1
        have f2 := hk3.cell (p := ⟨wr.heap.size, 1, none⟩) (.inr (by show W.heap.size ≤ wr.heap.size; omega)) f2
        have hz3 : W.heap.size + 1 ≤ w3.heap.size := by have := hk3.1; omega
        have hb3 : wr.heap.size < w3.heap.size := by have := hk3.1; omega
        obtain ⟨⟨x0, x1, x2, x3, x4, x5⟩, g0, g1, g2, g3, g4, g5⟩ := D3.out.six
        clear hj3 hk3 D2 s2 ON2
        gi_wp2_with fail
        refine ⟨trivial, rfl, ?_⟩
        gi_at_call 57
        refine (callsIn_wide.2 (behind_any st wait sa sc (behAll none6 (l.take k)) _ HLS.out (HCS.out.old O3.out) (ckStep_known HFK.out.1))).mono ?_
        rintro e w4 ⟨rfl, hE4⟩
        rw [← HT.out]
        have HJ4 : Hid (J (List.range k ++ [k]) w4) := HJ.out _ _ _ HJ3.out (Own1.ext hE4 (by omega))
        have s4 := hE4.cell s3
        have D4 := Lib.hid (D3.out.ext hE4)
        have O4 := Lib.hid (O3.out.trans (Old.ext hE4))
        have hz4 : W.heap.size + 1 ≤ w4.heap.size := by have := hE4.size; omega
        clear x0 x1 x2 x3 x4 x5 g0 g1 g2 g3 g4 g5 f1 f2 s3 D3 O3 HJ3
        obtain ⟨⟨x0, x1, x2, x3, x4, x5⟩, g0, g1, g2, g3, g4, g5⟩ := D4.out.six
        generalize hff : behAll none6 (l.take (k + 1)) = ff at HT ⊢
        have HFF := Lib.hid hff
        clear hff
        unfold endsV
        have B5 : Below W.heap.size w4 ((((((w4.setCell ⟨W.heap.size, 0, none⟩ (.bool (ff 0))).setCell ⟨W.heap.size, 1, none⟩ (.bool (ff 1))).setCell ⟨W.heap.size, 2, none⟩ (.bool (ff 2))).setCell ⟨W.heap.size, 3, none⟩ (.bool (ff 3))).setCell ⟨W.heap.size, 4, none⟩ (.bool (ff 4))).setCell ⟨W.heap.size, 5, none⟩ (.bool (ff 5))) :=
          ((((((Below.refl _ _).setCell (p := ⟨W.heap.size, 0, none⟩) (Nat.le_refl _) _).setCell (p := ⟨W.heap.size, 1, none⟩) (Nat.le_refl _) _).setCell (p := ⟨W.heap.size, 2, none⟩) (Nat.le_refl _) _).setCell (p := ⟨W.heap.size, 3, none⟩) (Nat.le_refl _) _).setCell (p := ⟨W.heap.size, 4, none⟩) (Nat.le_refl _) _).setCell (p := ⟨W.heap.size, 5, none⟩) (Nat.le_refl _) _
        have D5 := Lib.hid (D4.out.store6 ff)
        have O5 := Lib.hid (O4.out.below B5 hsz)
        have J5 := Lib.hid (HJ.out _ _ _ HJ4.out (Own1.six _ _ ff))
        have s5 := cellB B5 (p := ⟨sb, 1, none⟩) zs s4
        have hz5 := B5.size
        gi_wp2
        refine ⟨⟨k + 1, by omega, by go_num, ?_, by omega, s5, ?_, O5⟩, by simp [intOf]; omega⟩
        · show J _ _
          rw [List.range_succ]; exact J5.out
        · show EndsAt _ _ _
          rw [HFF.out]; exact D5.out
      · gi_wp2
        refine bodyPost_ret (results_none rfl _ _ _) rfl ?_
        exact ⟨⟨_, rfl⟩, .inr ⟨_, HPRE.out, hj3⟩⟩
    · have hk' : k = l.length := by omega
      subst hk'
      have HPRE : Hid (List.range l.length ++ [l.length] <+: List.range (l.length + 1)) := range_prefix (by omega)
      have hyy := HY.out (List.range l.length) l.length wr HPRE.out hz hj.out
      unfold alongEnc endsV at hyy
      rw [List.take_of_length_le (Nat.le_refl _)] at hyy
      obtain ⟨fn, tmps, assign, body, hy, hR⟩ := hyy
      rw [List.take_of_length_le (Nat.le_refl _)] at x0 x1 x2 x3 x4 x5
      gi_wp2
      refine ⟨rfl, hR.mono ?_⟩
      clear hy hR
      rintro e w3 (⟨rfl, hj3, hk3⟩ | ⟨rfl, hj3, hk3⟩)
      · gi_wp2
        go_end0
        refine ⟨⟨_, rfl⟩, .inl ?_⟩
        rw [List.range_succ]
        exact hj3
      · gi_wp2
        go_end0
        exact ⟨⟨_, rfl⟩, .inr ⟨_, HPRE.out, hj3⟩⟩
end Go.Proofs.YtdolibeceijnnaaDoor
namespace Go.Proofs.YtdolibeceijnnaaDoor
open Go.RowKit
attribute [local go_sem] Oper.semAt_some
set_option maxHeartbeats 2000000 in
set_option maxRecDepth 100000 in
theorem CloneB_any (n : Nat) (f : Int → Bool) (eb eo ec : Nat) (w : World) (hn : n ≤ 6) (h0 : 0 < n) (he : CellsB w (some ⟨eb, eo, none⟩) n f) :
    Calls Tryd.prog 59 #[.slice (some ⟨eb, eo, none⟩) n ec] w (BoolsPost n f w) := by
  have HE := Lib.hid he
  clear he
  obtain ⟨i0, hi, hi0, hi1, hi2⟩ := info_parts infoBool
  have heq : ∀ w' : World, (binOp .eql 59 (.slice (some ⟨eb, eo, none⟩) n ec) (.slice none 0 0)).run Tryd.prog w' = .ok (.bool false) w' := fun w' => Lib.run_eql_slice_nil (P := Tryd.prog) w' 59 4 (some ⟨eb, eo, none⟩) n ec 0 0 Tryd.underlying59
  go_enter Tryd.func59, Tryd.ntmps59
  have E1 : Ext w (w.alloc (.cells #[] 4)) := extA
  have hown : (w.alloc (.cells #[] 4)).ownsRow 0 4 1 (.slice (some ⟨w.heap.size, 0, none⟩) 0 0) 0 [] :=
    World.ownsRow_made (w := w) (base := 0) (e := 4) (size := 1) #[] 0 (Nat.zero_le _) (Nat.zero_le _) rfl
  have ez : (w.alloc (.cells #[] 4)).heap.size = w.heap.size + 1 := by simp
  go_wp2_with (at_builtin; refine wpList_append1 _ rfl _ _ 59 rfl 4 i0 (.bool false) 1 1 Tryd.underlying59 hi hi0 hi1 hi2 rfl (by decide) (.slice (some ⟨w.heap.size, 0, none⟩) 0 0) 0 [] rfl hown ⟨eb, eo, none⟩ n ec h0 (boolsL n f) rfl ?c0 ?c1 ?c2 ?c3 ?c4 ?c5)
  case c0 => simp [boolsL]
  case c1 =>
    intro j u hu
    obtain ⟨hj, rfl⟩ := boolsL_get hu
    obtain ⟨b, off, hb, hcell⟩ := HE.out.ext E1 j hj
    cases hb
    rw [Addr.add_lit]; exact hcell
  case c2 => intro u hu; unfold boolsL at hu; simp at hu; obtain ⟨i, _, rfl⟩ := hu; rfl
  case c3 => unfold maxLen; omega
  case c4 => omega
  case c5 =>
    intro v' w5 hown5 hend5
    obtain ⟨g, c, rfl, hg, hb⟩ := rowBools h0 hown5
    have B5 : Below w.heap.size _ w5 := hend5.below (n := w.heap.size) (by rw [ez]; omega) (fun b hb => by cases hb; exact Nat.le_refl _)
    have G5 := hend5.ge (n := w.heap.size) (by rw [ez]; omega) (fun b hb => by cases hb; exact Nat.le_refl _) g hg
    have F5 : Ext w w5 := E1.trans' B5 (Nat.le_refl _)
    have HB := Lib.hid hb
    clear hown5 hend5 hg hb hown B5 E1 ez
    go_wp2
    go_ret
    exact ⟨g, c, rfl, HB.out, G5, F5⟩
theorem results_cell_cell {fn : Func} {p q : Tmp} {t u : TypeId} (h : fn.results = #[.cell p t, .cell q u]) (tmps : Array Value) (P : Program) (w : World) :
    (results fn tmps).run P w =
      ((asAddr (tmps.getD p undef)).run P w).andThen fun a w₁ => ((loadVar t a).run P w₁).andThen fun x w₂ => ((asAddr (tmps.getD q undef)).run P w₂).andThen fun b w₃ => ((loadVar u b).run P w₃).andThen fun y w₄ => .ok (.tuple #[x, y]) w₄ := by
  simp only [results, h]
  simp [Sem.run_bind, Result.andThen]
theorem leaves_cells {P : Program} {fn : Func} {tmps : Array Value} {R : Ending → World → Prop} {m n : Nat} {v : Value} :
    ∀ (ds : List Deferred) (w : World), Marks n ds w → (∀ w', Keep n w w' → (results fn tmps).run P w' = .ok v w' ∧ R (.returned v) w') → LeavesInM Fence.wide m P fn tmps R ds .returning w := by
  intro ds
  induction ds with
  | nil => intro w _ hR; exact ⟨v, (hR w (Keep.refl _ _)).1, (hR w (Keep.refl _ _)).2⟩
  | cons d ds ih =>
    intro w hm hR
    obtain ⟨Ds, h1, h2, h3⟩ := hm
    cases Ds with
    | nil => cases h1
    | cons D Ds =>
      simp only [List.map_cons, List.cons.injEq] at h1
      obtain ⟨rfl, rfl⟩ := h1
      have hD := h3 D (List.mem_cons_self ..)
      have hb : Keep n w (w.putObj D (.deferred none)) := Keep.turn hD.1 hD.2 rfl
      refine ⟨(by simp), .inl ⟨D, _, rfl, run_takeDeferred hD.2, ih _ ⟨Ds, rfl, (List.nodup_cons.1 h2).2, fun E hE => ⟨(h3 E (List.mem_cons_of_mem _ hE)).1, ?_⟩⟩ (fun w' hw' => hR w' (hb.trans hw'))⟩⟩
      have hne : E ≠ D := fun e => (List.nodup_cons.1 h2).1 (e ▸ hE)
      rw [World.putObj_heap_other hne]
      exact (h3 E (List.mem_cons_of_mem _ hE)).2
theorem Keep.cell {m : Nat} {A B : World} (h : Keep m A B) {p : Addr} {v : Value} (hc : A.cell? p = some v) : B.cell? p = some v := by
  have hlt := cell_lt hc
  obtain ⟨o, ho⟩ : ∃ o, A.heap[p.block]? = some o := ⟨_, Array.getElem?_eq_getElem hlt⟩
  have hr : isRec o = false := by
    cases o <;> simp [World.cell?, ho] at hc <;> rfl
  exact (World.cell?_of_block (w := A) ((h.2 _ _ ho hr).trans ho.symm)).trans hc
theorem Keep.frozen {m : Nat} {A B : World} (h : Keep m A B) {p : Addr} {v : Value} (hc : A.cell? p = some v) : B.frozen? p = A.frozen? p := by
  have hlt := cell_lt hc
  obtain ⟨o, ho⟩ : ∃ o, A.heap[p.block]? = some o := ⟨_, Array.getElem?_eq_getElem hlt⟩
  have hr : isRec o = false := by
    cases o <;> simp [World.cell?, ho] at hc <;> rfl
  exact World.frozen?_of_block (w := A) ((h.2 _ _ ho hr).trans ho.symm)
theorem BoolsAt.keep {m p n : Nat} {A B : World} {e : Int → Bool} (h : BoolsAt A p n e) (k : Keep m A B) : BoolsAt B p n e := fun i hi =>
  ⟨k.cell (h i hi).1, (k.frozen (h i hi).1).trans (h i hi).2⟩
theorem BoolsAt.own1 {m p n : Nat} {A B : World} {e : Int → Bool} (h : BoolsAt A p n e) (k : Own1 m A B) (hp : p ≠ m) : BoolsAt B p n e := fun i hi =>
  ⟨(World.cell?_of_block (w := A) (a := ⟨p, i, none⟩) (k.2 p (cell_lt (h i hi).1) hp)).trans (h i hi).1, (World.frozen?_of_block (w := A) (a := ⟨p, i, none⟩) (k.2 p (cell_lt (h i hi).1) hp)).trans (h i hi).2⟩
def Chg (B : Nat → Prop) (A C : World) : Prop := A.heap.size ≤ C.heap.size ∧ ∀ k, k < A.heap.size → ¬ B k → C.heap[k]? = A.heap[k]?
theorem Chg.refl (B : Nat → Prop) (A : World) : Chg B A A := ⟨Nat.le_refl _, fun _ _ _ => rfl⟩
theorem Chg.trans {B : Nat → Prop} {A C D : World} (h : Chg B A C) (k : Chg B C D) : Chg B A D :=
  ⟨Nat.le_trans h.1 k.1, fun i hi hb => (k.2 i (Nat.lt_of_lt_of_le hi h.1) hb).trans (h.2 i hi hb)⟩
theorem Chg.ext {B : Nat → Prop} {A C : World} (h : Ext A C) : Chg B A C := ⟨h.size, fun k hk _ => Below.block h k hk⟩
theorem Chg.setCell {B : Nat → Prop} {A : World} (p : Addr) (v : Value) (hb : B p.block) : Chg B A (A.setCell p v) :=
  ⟨by simp [World.setCell], fun k _ hk => Below.heap_setCell _ _ _ _ (fun e => hk (e ▸ hb))⟩
theorem Chg.app {B : Nat → Prop} {A C : World} {v v' : Value} (h : AppEnd A C v v') (hb : ∀ b, v.ownBlock = some b → B b) : Chg B A C := by
  rcases h with ⟨_, _, hg⟩ | ⟨_, he⟩
  · exact ⟨hg.size, fun k hk hn => hg.block k hk (fun e => hn (hb k e.symm))⟩
  · exact Chg.ext he
theorem Chg.kept {B X : Nat → Prop} {n : Nat} {A C : World} (h : Chg B A C) (hx : ∀ k, X k → k < A.heap.size → ¬ B k) : Kept X n A C :=
  ⟨h.1, fun k o hk ho _ => by
    have hl := (Array.getElem?_eq_some_iff.1 ho).1
    rw [h.2 k hl (hx k hk hl)]; exact ho⟩
theorem Chg.others {B : Nat → Prop} {A C : World} (h : Chg B A C) (hb : ∀ k, B k → ∀ o, A.heap[k]? = some o → o.isCells = true) : KeepsOthers A C :=
  ⟨h.1, fun k o ho hc => by
    have hl := (Array.getElem?_eq_some_iff.1 ho).1
    rw [h.2 k hl (fun hk => by rw [hb k hk o ho] at hc; cases hc)]; exact ho⟩
theorem isCells_of_cell {A : World} {p : Addr} {v : Value} (h : A.cell? p = some v) {o : Obj} (ho : A.heap[p.block]? = some o) : o.isCells = true := by
  cases o <;> simp [World.cell?, ho] at h <;> rfl
structure EndsOut (N : Nat) (f : Int → Bool) (rb eb m n0 : Nat) (w W : World) : Prop where
  be : Ext w W
  r : ∃ g c, W.cell? ⟨rb, 0, none⟩ = some (.slice (some ⟨g, 0, none⟩) N c) ∧ BoolsAt W g N f ∧ g ≠ m ∧ n0 ≤ g
  e : W.cell? ⟨eb, 0, none⟩ = some (.int .i64 0)
theorem ckSeq_zero {n : Int} {l : List Stp} (h : ckSeq (n, l) = 0) : 1 ≤ n ∧ n ≤ 6 ∧ 0 < l.length ∧ l.length ≤ 64 ∧ ckWalk n none6 l = 0 ∧ (ints n).any (behAll none6 l) = false ∧ (ints n).any (fun a => !movedIn a l) = false := by
  unfold ckSeq at h
  by_cases h1 : n < 1 ∨ 6 < n
  · rw [if_pos h1] at h; cases h
  · rw [if_neg h1] at h
    by_cases h2 : l.length = 0
    · rw [if_pos h2] at h; cases h
    · rw [if_neg h2] at h
      by_cases h3 : 64 < l.length
      · rw [if_pos h3] at h; cases h
      · rw [if_neg h3] at h
        dsimp only at h
        by_cases h4 : ckWalk n none6 l ≠ 0
        · rw [if_pos h4] at h; exact absurd h h4
        · rw [if_neg h4] at h
          cases h5 : (ints n).any (behAll none6 l)
          · rw [h5] at h
            cases h6 : (ints n).any (fun a => !movedIn a l)
            · refine ⟨by omega, by omega, by omega, by omega, by omega, rfl, rfl⟩
            · rw [h6] at h; cases h
          · rw [h5] at h; cases h
set_option maxHeartbeats 4000000 in
set_option maxRecDepth 100000 in
theorem Ends_any (N : Nat) (l : List Stp) (q : Nat) (a : Option Addr) (cap : Nat) (w : World) (hl : l.length ≤ maxLen) (hc : CellsP w a l) (hk : ckSeq ((N : Int), l) = 0) (hq : q ≤ l.length) :
    Calls Tryd.prog 29 #[.agg #[.int .i64 (N : Int), .slice a l.length cap], .int .i64 (q : Int)] w fun r w' => ∃ v, r = .returned (.tuple #[v, .int .i64 0]) ∧ BoolsPost N (behAll none6 (l.take q)) w (.returned v) w' := by
  have HC := Lib.hid hc
  have HL := Lib.hid hl
  have HCK := Lib.hid hk
  clear hc hk hl
  refine (callsIn_wide (n := 0)).1 ?_
  refine callsIn_of_wp_marks Tryd.func29 rfl trivial ?_
  simp only [Tryd.ntmps29, List.size_toArray, List.length_cons, List.length_nil, Nat.reduceAdd, Nat.reduceSub, Array.replicate_succ, Array.replicate_zero, List.push_toArray, List.append_toArray, List.nil_append, List.cons_append]
  gi_wp2_with fail
  refine ⟨trivial, rfl, ?_⟩
  gi_at_call 28
  have E1 : Ext w ((((w.alloc (.cells #[.int .i64 (N : Int), .slice a l.length cap] 24)).alloc (.cells #[.int .i64 (q : Int)] 3)).alloc (.cells #[.slice none 0 0] 59)).alloc (.cells #[.int .i64 0] 28)) := extA
  have c0 : ((((w.alloc (.cells #[.int .i64 (N : Int), .slice a l.length cap] 24)).alloc (.cells #[.int .i64 (q : Int)] 3)).alloc (.cells #[.slice none 0 0] 59)).alloc (.cells #[.int .i64 0] 28)).cell? ⟨w.heap.size, 0, none⟩ = some (.int .i64 (N : Int)) := by go_simp
  have c1 : ((((w.alloc (.cells #[.int .i64 (N : Int), .slice a l.length cap] 24)).alloc (.cells #[.int .i64 (q : Int)] 3)).alloc (.cells #[.slice none 0 0] 59)).alloc (.cells #[.int .i64 0] 28)).cell? ⟨w.heap.size, 1, none⟩ = some (.slice a l.length cap) := by go_simp
  have c2 : ((((w.alloc (.cells #[.int .i64 (N : Int), .slice a l.length cap] 24)).alloc (.cells #[.int .i64 (q : Int)] 3)).alloc (.cells #[.slice none 0 0] 59)).alloc (.cells #[.int .i64 0] 28)).cell? ⟨w.heap.size + 1, 0, none⟩ = some (.int .i64 (q : Int)) := by go_simp
  have c3 : ((((w.alloc (.cells #[.int .i64 (N : Int), .slice a l.length cap] 24)).alloc (.cells #[.int .i64 (q : Int)] 3)).alloc (.cells #[.slice none 0 0] 59)).alloc (.cells #[.int .i64 0] 28)).cell? ⟨w.heap.size + 1 + 1, 0, none⟩ = some (.slice none 0 0) := by go_simp
  have c4 : ((((w.alloc (.cells #[.int .i64 (N : Int), .slice a l.length cap] 24)).alloc (.cells #[.int .i64 (q : Int)] 3)).alloc (.cells #[.slice none 0 0] 59)).alloc (.cells #[.int .i64 0] 28)).cell? ⟨w.heap.size + 1 + 1 + 1, 0, none⟩ = some (.int .i64 0) := by go_simp
  have d3 : ((((w.alloc (.cells #[.int .i64 (N : Int), .slice a l.length cap] 24)).alloc (.cells #[.int .i64 (q : Int)] 3)).alloc (.cells #[.slice none 0 0] 59)).alloc (.cells #[.int .i64 0] 28)).frozen? ⟨w.heap.size + 1 + 1, 0, none⟩ = false := by go_simp
  have d4 : ((((w.alloc (.cells #[.int .i64 (N : Int), .slice a l.length cap] 24)).alloc (.cells #[.int .i64 (q : Int)] 3)).alloc (.cells #[.slice none 0 0] 59)).alloc (.cells #[.int .i64 0] 28)).frozen? ⟨w.heap.size + 1 + 1 + 1, 0, none⟩ = false := by go_simp
  generalize ((((w.alloc (.cells #[.int .i64 (N : Int), .slice a l.length cap] 24)).alloc (.cells #[.int .i64 (q : Int)] 3)).alloc (.cells #[.slice none 0 0] 59)).alloc (.cells #[.int .i64 0] 28)) = W at E1 c0 c1 c2 c3 c4 d3 d4 ⊢
  refine (callsIn_wide.2 (Check_any (N : Int) l a cap _ HL.out (HC.out.ext E1))).mono ?_
  rintro e w1 ⟨rfl, hE⟩
  rw [HCK.out]
  have E2 := E1.trans hE
  have d3 := (Below.frozen (p := ⟨w.heap.size + 1 + 1, 0, none⟩) hE (cell_lt c3)).trans d3
  have d4 := (Below.frozen (p := ⟨w.heap.size + 1 + 1 + 1, 0, none⟩) hE (cell_lt c4)).trans d4
  have c0 := hE.cell c0
  have c1 := hE.cell c1
  have c2 := hE.cell c2
  have c3 := hE.cell c3
  have c4 := hE.cell c4
  clear hE E1
  gi_wp2_with fail
  refine ⟨trivial, rfl, ?_⟩
  gi_at_call 58
  refine (callsIn_wide.2 (along_any (N : Int) (.slice a l.length cap) _)).mono ?_
  rintro e w2 ⟨rfl, rfl⟩
  obtain ⟨hN1, hN6, hl0, hl64, hwk, _, _⟩ := ckSeq_zero HCK.out
  have hFine := ckWalk_fine hwk
  have E3 : Ext w1 (w1.alloc (.cells #[.int .i64 (N : Int), .slice a l.length cap] 24)) := extA
  have s2 : (w1.alloc (.cells #[.int .i64 (N : Int), .slice a l.length cap] 24)).cell? ⟨w1.heap.size, 1, none⟩ = some (.slice a l.length cap) := by go_simp
  have d3 := (Below.frozen (p := ⟨w.heap.size + 1 + 1, 0, none⟩) E3 (cell_lt c3)).trans d3
  have d4 := (Below.frozen (p := ⟨w.heap.size + 1 + 1 + 1, 0, none⟩) E3 (cell_lt c4)).trans d4
  have z4 := cell_lt c4
  dsimp only at z4
  have c0 := E3.cell c0
  have c1 := E3.cell c1
  have c2 := E3.cell c2
  have c3 := E3.cell c3
  have c4 := E3.cell c4
  have E4 := E2.trans E3
  have zs := cell_lt s2
  dsimp only at zs
  gi_wp2
  obtain ⟨sb, hsb⟩ : ∃ sb, sb = w1.heap.size := ⟨_, rfl⟩
  rw [← hsb] at s2 zs z4 ⊢
  generalize w1.alloc (.cells #[.int .i64 (N : Int), .slice a l.length cap] 24) = w2 at *
  clear E3 E2 hsb
  refine wpIn_wide.2 ?_
  refine wp_range (n := 0) (gf := 80) (lb := #[.pointer (some ⟨sb, 0, none⟩)]) rfl (enters_of Tryd.func80 (by kernel_rfl) rfl)
    (along1_iter (N : Int) l a cap w w2 sb (fun k => k = w.heap.size + 1 + 1 ∨ k = w.heap.size + 1 + 1 + 1) hl64 hFine HC.out E4 s2 (by omega) (fun k hk => by omega)) (fun q => rfl)
    (fun A B h k o hk ho => by rw [Below.block h.1 k hk]; exact ho)
    (fun pre W => q ∉ pre ∧ Ext w2 W) (fun c pre W => c = .ret ∧ EndsOut N (behAll none6 (l.take q)) (w.heap.size + 1 + 1) (w.heap.size + 1 + 1 + 1) (w2.heap.size + 2) w.heap.size w W)
    (fun pre A B h k => ⟨h.1, h.2.trans' k.1 (by omega)⟩) ?hixr
    (fun pre A B h k => ⟨h.1, h.2.trans' k.1 (Nat.le_refl _)⟩) ?hixk
    ⟨by simp, Ext.refl _⟩
    (fun (x : Nat) a' W => ∃ qb, w2.heap.size + 2 ≤ qb ∧ EndsAt W qb (behAll none6 (l.take x)) ∧ a' = { tmps := #[.agg #[.int .i64 (N : Int), .slice a l.length cap], .int .i64 (q : Int), .pointer (some ⟨w.heap.size, 0, none⟩), .pointer (some ⟨w.heap.size + 1, 0, none⟩), .pointer (some ⟨w.heap.size + 1 + 1, 0, none⟩), .pointer (some ⟨w.heap.size + 1 + 1 + 1, 0, none⟩), .int .i64 0, .int .i64 (x : Int), .pointer (some ⟨qb, 0, none⟩), .agg #[.int .i64 (N : Int), .slice a l.length cap], .int .i64 0, .int .i64 0, .bool false, undef, .agg #[.int .i64 (N : Int), .slice a l.length cap], .func (.func 80) #[] #[.pointer (some ⟨sb, 0, none⟩)], .int .i64 (x : Int), endsV (behAll none6 (l.take x)), undef, undef, undef, undef, undef, undef, undef], defers := [] })
    ?hax ?assign ?body (fun pre A B h k => ⟨h.1, h.2.trans k⟩) ?done ?stop
  case hixr =>
    rintro c pre A B ⟨rfl, hbe, ⟨g, cc, r1, r2, r3, r4⟩, he⟩ k
    refine ⟨rfl, hbe.trans' k.1 (by omega), ⟨g, cc, (Below.cell k.1 (p := ⟨w.heap.size + 1 + 1, 0, none⟩) (by show w.heap.size + 1 + 1 < _; omega)).trans r1, r2.own1 k r3, r3, r4⟩, (Below.cell k.1 (p := ⟨w.heap.size + 1 + 1 + 1, 0, none⟩) (by show w.heap.size + 1 + 1 + 1 < _; omega)).trans he⟩
  case hixk =>
    rintro c pre A B ⟨rfl, hbe, ⟨g, cc, r1, r2, r3, r4⟩, he⟩ k
    exact ⟨rfl, hbe.trans' k.1 E4.size, ⟨g, cc, k.cell r1, r2.keep k, r3, r4⟩, k.cell he⟩
  case hax =>
    rintro x a' A B ⟨qb, h1, h2, h3⟩ k
    exact ⟨qb, h1, fun i hi => ⟨k.cell (h2 i hi).1, (k.frozen (h2 i hi).1).trans (h2 i hi).2⟩, h3⟩
  case assign =>
    intro y pre x W' K hm hI hK
    unfold alongEnc endsV
    gi_wp2
    exact hK _ _ ((Ext.refl _).alloc _) ⟨W'.heap.size, by omega, ends_new rfl _, rfl⟩
  case body =>
    rintro y pre x a' W' hpre hm hI ⟨qb, hqb, hEb, rfl⟩
    obtain ⟨hnin, EW⟩ := hI
    unfold endsV
    have c0 := EW.cell c0
    have c2 := EW.cell c2
    have c3 := EW.cell c3
    have c4 := EW.cell c4
    have d3 := (Below.frozen (p := ⟨w.heap.size + 1 + 1, 0, none⟩) EW (by show w.heap.size + 1 + 1 < _; omega)).trans d3
    have d4 := (Below.frozen (p := ⟨w.heap.size + 1 + 1 + 1, 0, none⟩) EW (by show w.heap.size + 1 + 1 + 1 < _; omega)).trans d4
    have HEB := Lib.hid hEb
    have HNI := Lib.hid hnin
    have HPRE := Lib.hid hpre
    have zqb : qb < W'.heap.size := cell_lt (hEb 0 (by omega)).1
    clear hEb hnin hpre hFine hwk s2 c1
    by_cases hx : x = q
    · subst hx
      have hxx : ((x : Int) == (x : Int)) = true := by simp
      have hsl := fun w' => sliceEnds qb (N : Int) (by omega) hN6 w'
      rw [Int.toNat_natCast] at hsl
      gi_wp2_with fail
      refine ⟨trivial, rfl, ?_⟩
      gi_at_call 59
      refine (callsIn_wide.2 (CloneB_any N (behAll none6 (l.take x)) qb 0 6 _ (by omega) (by omega) (HEB.out.cells (by omega)))).mono ?_
      rintro e w5 ⟨g, cc, rfl, hb, hg, hE⟩
      have F3 := hE.cell c3
      have F4 := hE.cell c4
      have G3 := (Below.frozen (p := ⟨w.heap.size + 1 + 1, 0, none⟩) hE (cell_lt c3)).trans d3
      have G4 := (Below.frozen (p := ⟨w.heap.size + 1 + 1 + 1, 0, none⟩) hE (cell_lt c4)).trans d4
      have HC3 := Lib.hid c3
      have HC4 := Lib.hid c4
      clear c0 c2 c3 c4 d3 d4
      have HBO := Lib.hid hb
      have hzg := hE.size
      have C : Chg (fun k => k = w.heap.size + 1 + 1 ∨ k = w.heap.size + 1 + 1 + 1) W' ((w5.setCell ⟨w.heap.size + 1 + 1, 0, none⟩ (.slice (some ⟨g, 0, none⟩) N cc)).setCell ⟨w.heap.size + 1 + 1 + 1, 0, none⟩ (.int .i64 0)) :=
        (Chg.ext hE).trans ((Chg.setCell (B := fun k => k = w.heap.size + 1 + 1 ∨ k = w.heap.size + 1 + 1 + 1) ⟨w.heap.size + 1 + 1, 0, none⟩ _ (.inl rfl)).trans (Chg.setCell (B := fun k => k = w.heap.size + 1 + 1 ∨ k = w.heap.size + 1 + 1 + 1) ⟨w.heap.size + 1 + 1 + 1, 0, none⟩ _ (.inr rfl)))
      have X1 : ((w5.setCell ⟨w.heap.size + 1 + 1, 0, none⟩ (.slice (some ⟨g, 0, none⟩) N cc)).setCell ⟨w.heap.size + 1 + 1 + 1, 0, none⟩ (.int .i64 0)).cell? ⟨w.heap.size + 1 + 1, 0, none⟩ = some (.slice (some ⟨g, 0, none⟩) N cc) := by
        rw [World.cell?_setCell_other _ _ _ _ (fun h => by simp only [Addr.mk.injEq] at h; omega), World.cell?_setCell_same _ _ _ F3]
      have X2 : ((w5.setCell ⟨w.heap.size + 1 + 1, 0, none⟩ (.slice (some ⟨g, 0, none⟩) N cc)).setCell ⟨w.heap.size + 1 + 1 + 1, 0, none⟩ (.int .i64 0)).cell? ⟨w.heap.size + 1 + 1 + 1, 0, none⟩ = some (.int .i64 0) := by
        rw [World.cell?_setCell_same _ _ (.int .i64 0) (by rw [World.cell?_setCell_other _ _ _ _ (fun h => by simp only [Addr.mk.injEq] at h; omega)]; exact F4)]
      have hw2 := EW.size
      have hw5 := E4.size
      have X3 : BoolsAt ((w5.setCell ⟨w.heap.size + 1 + 1, 0, none⟩ (.slice (some ⟨g, 0, none⟩) N cc)).setCell ⟨w.heap.size + 1 + 1 + 1, 0, none⟩ (.int .i64 0)) g N (behAll none6 (l.take x)) := fun i hi => by
        refine ⟨?_, by rw [World.frozen?_setCell, World.frozen?_setCell]; exact (HBO.out i hi).2⟩
        rw [World.cell?_setCell_other _ _ _ _ (fun h => by simp only [Addr.mk.injEq] at h; omega), World.cell?_setCell_other _ _ _ _ (fun h => by simp only [Addr.mk.injEq] at h; omega)]
        exact (HBO.out i hi).1
      have X4 : Ext w ((w5.setCell ⟨w.heap.size + 1 + 1, 0, none⟩ (.slice (some ⟨g, 0, none⟩) N cc)).setCell ⟨w.heap.size + 1 + 1 + 1, 0, none⟩ (.int .i64 0)) := ((((E4.trans EW).trans hE).set (b := w.heap.size + 1 + 1) (by omega) _).set (b := w.heap.size + 1 + 1 + 1) (by omega) _)
      have HC2 := Lib.hid C
      have HX1 := Lib.hid X1
      have HX2 := Lib.hid X2
      have HX3 := Lib.hid X3
      have HX4 := Lib.hid X4
      clear C X1 X2 X3 X4
      gi_wp2
      refine ⟨HC2.out.kept ?_, (HC2.out.others ?_).from _, rfl, HX4.out, ⟨g, cc, HX1.out, HX3.out, by omega, by omega⟩, HX2.out⟩
      · rintro k (⟨h1, h2⟩ | h1) _ hB
        · exact h2 hB
        · omega
      · rintro k (rfl | rfl) o ho
        · exact isCells_of_cell (p := ⟨w.heap.size + 1 + 1, 0, none⟩) HC3.out ho
        · exact isCells_of_cell (p := ⟨w.heap.size + 1 + 1 + 1, 0, none⟩) HC4.out ho
    · have hxx : ((x : Int) == (q : Int)) = false := by simp; omega
      have HX := Lib.hid hx
      clear hx
      gi_wp2
      refine ⟨Kept.refl _ _ _, (KeepsOthers.refl _).from _, ?_, EW⟩
      intro hmem
      rcases List.mem_append.1 hmem with h | h
      · exact HNI.out h
      · simp at h; exact HX.out h.symm
  case done =>
    rintro D W' h1 h2 ⟨h3, h4⟩ h5
    exact absurd (List.mem_range.2 (by omega)) h3
  case stop =>
    rintro D c pre W' h1 h2 hpre ⟨rfl, hbe, ⟨g, cc, r1, r2, r3, r4⟩, he⟩ hD
    refine (wpIn_wide (n := 0)).1 ?_
    gi_wp2
    refine leaves_cells (v := .tuple #[.slice (some ⟨g, 0, none⟩) N cc, .int .i64 0]) (n := w.heap.size) [mark D] W' ⟨[D], rfl, by simp, fun E hE => by simp at hE; subst hE; exact ⟨by have := E4.size; omega, hD⟩⟩ (fun W6 hk => ?_)
    have r1 := hk.cell r1
    have he := hk.cell he
    refine ⟨by rw [results_cell_cell rfl]; go_simp, _, rfl, g, cc, rfl, r2.keep hk, r4, hbe.trans' hk.1 (Nat.le_refl _)⟩
end Go.Proofs.YtdolibeceijnnaaDoor
namespace Go.Proofs.YtdolibeceijnnaaDoor
open Go.RowKit
theorem infoInt : (Tryd.prog.info? 3).map (fun i => (i.zero, i.size, i.bytes)) = some (some (.int .i64 0), 1, 8) := by kernel_rfl
def OwnsI (w : World) (v : Value) (l : List Int) : Prop := w.ownsRow 0 3 1 v l.length (l.map (Value.int .i64))
theorem OwnsI.nil (w : World) : OwnsI w (.slice none 0 0) [] := World.ownsRow_nil w 0 _ _
theorem OwnsI.ext {A B : World} {v : Value} {l : List Int} (h : OwnsI A v l) (k : Ext A B) : OwnsI B v l := rowExt h k
theorem OwnsI.reads {A : World} {v : Value} {l : List Int} (h : OwnsI A v l) : ∃ a cap, v = .slice a l.length cap ∧ CellsI A a l ∧ l.length ≤ maxLen := by
  obtain ⟨a, cap, hv, hm, hr⟩ := rowReads h
  refine ⟨a, cap, hv, fun i hi => ?_, hm⟩
  obtain ⟨b, hb, _, h1, _⟩ := hr i (.int .i64 (l.getD i 0)) (by rw [List.getElem?_map, List.getElem?_eq_getElem hi, List.getD_eq_getElem?_getD, List.getElem?_eq_getElem hi]; rfl)
  exact ⟨b, 0, hb, by rw [Nat.zero_add]; exact h1⟩
theorem ownsI_succ {w : World} {v : Value} {l : List Int} {x : Int} (h : w.ownsRow 0 3 1 v (l.length + 1) (l.map (Value.int .i64) ++ [.int .i64 x])) : OwnsI w v (l ++ [x]) := by
  unfold OwnsI
  rw [List.length_append, List.length_singleton, List.map_append]
  exact h
def IntsPost (l : List Int) (err : Int) (w : World) (e : Ending) (w' : World) : Prop := ∃ a cap, e = .returned (.tuple #[.slice a l.length cap, .int .i64 err]) ∧ CellsI w' a l ∧ l.length ≤ maxLen ∧ Ext w w'
theorem rests_hasB (N : Nat) (l : List Stp) (k : Nat) : hasB N (behAll none6 (l.take k)) true = !restsAt ((N : Int), l) k := by
  unfold hasB restsAt ints
  rw [List.all_map, List.not_all_eq_any_not]
  show _ = (List.range (Int.toNat (N : Int))).any _
  rw [Int.toNat_natCast]
  congr 1
  funext i
  show (_ == true) = !!_
  simp
def pausesK (s : Sq) (k : Nat) : List Int := (ints k).filter fun k => restsAt s k.toNat
theorem ints_succ (k : Nat) : ints ((k + 1 : Nat) : Int) = ints (k : Int) ++ [(k : Int)] := by
  unfold ints
  rw [Int.toNat_natCast, Int.toNat_natCast, List.range_succ, List.map_append]; rfl
theorem pausesK_succ (s : Sq) (k : Nat) : pausesK s (k + 1) = pausesK s k ++ if restsAt s k then [(k : Int)] else [] := by
  unfold pausesK
  rw [ints_succ, List.filter_append]
  congr 1
  cases h : restsAt s k <;> simp [h]
theorem pausesK_len (s : Sq) (k : Nat) : (pausesK s k).length ≤ k := by
  unfold pausesK
  refine Nat.le_trans (List.length_filter_le _ _) ?_
  simp [ints]
set_option maxHeartbeats 4000000 in
set_option maxRecDepth 100000 in
theorem Pauses_any (n : Int) (l : List Stp) (a : Option Addr) (cap : Nat) (w : World) (hl : l.length ≤ maxLen) (hc : CellsP w a l) :
    Calls Tryd.prog 9 #[.agg #[.int .i64 n, .slice a l.length cap]] w (IntsPost (if ckSeq (n, l) = 0 then pauses (n, l) else []) (ckSeq (n, l)) w) := by
  have HC := Lib.hid hc
  have HL := Lib.hid hl
  clear hc hl
  by_cases hk : ckSeq (n, l) = 0
  · obtain ⟨hN1, hN6, hl0, hl64, hwk, _, _⟩ := ckSeq_zero hk
    obtain ⟨N, rfl⟩ := Int.eq_ofNat_of_zero_le (show 0 ≤ n by omega)
    rw [if_pos hk]
    have HCK := Lib.hid hk
    clear hk hwk
    obtain ⟨i0, hi, hi0, hi1, hi2⟩ := info_parts infoInt
    go_enter Tryd.func9, Tryd.ntmps9
    go_wp2_with fail
    have E1 : Ext w (w.alloc (.cells #[.int .i64 (N : Int), .slice a l.length cap] 24)) := extA
    have c0 : (w.alloc (.cells #[.int .i64 (N : Int), .slice a l.length cap] 24)).cell? ⟨w.heap.size, 0, none⟩ = some (.int .i64 (N : Int)) := by go_simp
    have c1 : (w.alloc (.cells #[.int .i64 (N : Int), .slice a l.length cap] 24)).cell? ⟨w.heap.size, 1, none⟩ = some (.slice a l.length cap) := by go_simp
    generalize w.alloc (.cells #[.int .i64 (N : Int), .slice a l.length cap] 24) = W at E1 c0 c1 ⊢
    refine (Check_any (N : Int) l a cap _ HL.out (HC.out.ext E1)).mono ?_
    rintro e w1 ⟨rfl, hE⟩
    rw [HCK.out]
    have E2 := E1.trans hE
    have c0 := hE.cell c0
    have c1 := hE.cell c1
    clear hE E1
    go_wp2
    have zw : w.heap.size < w1.heap.size := cell_lt c0
    go_loopw [17, 5] (fun i v wr => ∃ k : Nat, k ≤ l.length ∧ i = .int .i64 k ∧ (∃ vv, v = vv ∧ Hid (OwnsI wr vv (pausesK ((N : Int), l) k) ∧ ∀ b, vv.ownBlock = some b → w1.heap.size ≤ b)) ∧ Ext w1 wr) (fun i _ _ => l.length - (intOf i).toNat)
    case atStart => exact ⟨0, Nat.zero_le _, rfl, ⟨_, rfl, OwnsI.nil _, fun b hb => by cases hb⟩, Ext.refl _⟩
    case round =>
      obtain ⟨k, hkl, rfl, ⟨vv, hvv, hO⟩, he⟩ := hrel
      obtain rfl := hvv.symm
      have d0 := he.cell c0
      have d1 := he.cell c1
      by_cases hlt : k < l.length
      · have hq := pausesK_len ((N : Int), l) k
        have hsz := he.size
        go_wp2_with fail
        refine (Ends_any N l k a cap _ HL.out (HC.out.ext (E2.trans he)) HCK.out hkl).mono ?_
        rintro e w2 ⟨_, rfl, g, cc, hv, hb, hg, hE2⟩
        injection hv with hv
        subst hv
        have F2 := he.trans hE2
        have O2 := Lib.hid (hO.out.1.ext hE2)
        have OB := Lib.hid hO.out.2
        have HBO := Lib.hid hb.cells
        have hsz2 := hE2.size
        clear hb hO
        cases hr : restsAt ((N : Int), l) k
        · have HR : Hid (pausesK ((N : Int), l) (k + 1) = pausesK ((N : Int), l) k) := by show _ = _; rw [pausesK_succ, hr]; simp
          have HH : Hid (hasB N (behAll none6 (l.take k)) true = true) := by show _ = _; rw [rests_hasB, hr]; rfl
          clear hr
          go_wp2_with fail
          refine (ContainsB_any N (behAll none6 (l.take k)) true _ cc _ (by unfold maxLen; omega) HBO.out).mono ?_
          rintro e w3 ⟨rfl, rfl⟩
          rw [HH.out]
          go_wp2
          refine ⟨⟨k + 1, by omega, by go_num, ⟨vv, rfl, by rw [HR.out]; exact O2.out, OB.out⟩, F2⟩, by simp [intOf]; omega⟩
        · have HR : Hid (pausesK ((N : Int), l) (k + 1) = pausesK ((N : Int), l) k ++ [(k : Int)]) := by show _ = _; rw [pausesK_succ, hr]; simp
          have HH : Hid (hasB N (behAll none6 (l.take k)) true = false) := by show _ = _; rw [rests_hasB, hr]; rfl
          clear hr
          generalize hP : pausesK ((N : Int), l) k = P at HR O2 hq
          clear hP
          go_wp2_with fail
          refine (ContainsB_any N (behAll none6 (l.take k)) true _ cc _ (by unfold maxLen; omega) HBO.out).mono ?_
          rintro e w3 ⟨rfl, rfl⟩
          rw [HH.out]
          go_wp2_with (at_builtin; refine wpList_append1 _ rfl _ _ 27 rfl 3 i0 (.int .i64 0) 1 8 Tryd.underlying27 hi hi0 hi1 hi2 rfl (by decide) vv P.length (P.map (Value.int .i64)) rfl ?ho ⟨w2.heap.size, 0, none⟩ 1 1 (by decide) [.int .i64 (k : Int)] rfl rfl ?hn ?c1 ?c2 ?c3 ?c4)
          case ho => exact O2.out.ext ((Ext.refl _).alloc _)
          case hn => exact cells_one _ _ _
          case c1 => intro u hu; simp at hu; subst hu; rfl
          case c2 => unfold maxLen; omega
          case c3 => omega
          case c4 =>
            intro v' w5 hown5 hend5
            have O5 : Hid (OwnsI w5 v' (pausesK ((N : Int), l) (k + 1))) := by show OwnsI _ _ _; rw [HR.out]; exact ownsI_succ hown5
            have B5 : Ext w1 w5 := (F2.trans ((Ext.refl _).alloc _)).trans' (hend5.below (n := w1.heap.size) (by simp; omega) OB.out) (Nat.le_refl _)
            have OB5 : Hid (∀ b, v'.ownBlock = some b → w1.heap.size ≤ b) := hend5.ge (n := w1.heap.size) (by simp; omega) OB.out
            clear hown5 hend5 O2 OB
            go_wp2
            refine ⟨⟨k + 1, by omega, by go_num, ⟨v', rfl, O5.out, OB5.out⟩, B5⟩, by simp [intOf]; omega⟩
      · have hke : k = l.length := by omega
        subst hke
        go_wp2
        go_ret2
        obtain ⟨ra, rc, hrv, hrc, hrl⟩ := hO.out.1.reads
        rw [HCK.out]
        exact ⟨ra, rc, by rw [hrv]; rfl, hrc, hrl, E2.trans he⟩
  · rw [if_neg hk]
    have hk' : (ckSeq (n, l) != 0) = true := by simp [hk]
    clear hk
    generalize hx : ckSeq (n, l) = x at hk'
    have HX := Lib.hid hx
    clear hx
    go_enter Tryd.func9, Tryd.ntmps9
    go_wp2_with fail
    have E1 : Ext w (w.alloc (.cells #[.int .i64 n, .slice a l.length cap] 24)) := extA
    refine (Check_any n l a cap _ HL.out (HC.out.ext E1)).mono ?_
    rintro e w1 ⟨rfl, hE⟩
    rw [HX.out]
    go_wp2
    go_ret2
    exact ⟨none, 0, rfl, CellsI.nil _ _, by simp, E1.trans hE⟩
end Go.Proofs.YtdolibeceijnnaaDoor
namespace Go.Proofs.YtdolibeceijnnaaDoor
open Go.RowKit
theorem infoStk : (Tryd.prog.info? 67).map (fun i => (i.zero, i.size, i.bytes)) = some (some (.agg #[.int .i64 0, .bool false]), 2, 16) := by kernel_rfl
theorem infoStp : (Tryd.prog.info? 65).map (fun i => (i.zero, i.size, i.bytes)) = some (some (.agg #[.slice none 0 0, .int .i64 0]), 2, 32) := by kernel_rfl
def pairK (l : List Stk) : List (Value × Value) := l.map fun y => (.int .i64 y.1, .bool y.2)
def flatK (l : List Stk) : List Value := flat2 (pairK l)
theorem flatK_length (l : List Stk) : (flatK l).length = l.length * 2 := by unfold flatK; rw [flat2_length]; simp [pairK]
theorem flatK_append (l m : List Stk) : flatK (l ++ m) = flatK l ++ flatK m := by unfold flatK pairK; rw [List.map_append, flat2_append]
theorem flatK_get (l : List Stk) (i : Nat) (h : i < l.length) : (flatK l)[i * 2]? = some (.int .i64 (l.getD i stk0).1) ∧ (flatK l)[i * 2 + 1]? = some (.bool (l.getD i stk0).2) := by
  have := flat2_get (pairK l) i (by simpa [pairK] using h)
  unfold flatK
  rw [this.1, this.2]
  simp [pairK, List.getD, h]
theorem flat2_two {l : List (Value × Value)} {j : Nat} {u : Value} (h : (flat2 l)[j]? = some u) : ∃ i, ∃ hi : i < l.length, (j = i * 2 ∧ u = l[i].1) ∨ (j = i * 2 + 1 ∧ u = l[i].2) := by
  have hj := (List.getElem?_eq_some_iff.1 h).1
  rw [flat2_length] at hj
  have hi : j / 2 < l.length := by omega
  have hg := flat2_get l (j / 2) hi
  refine ⟨j / 2, hi, ?_⟩
  rcases Nat.mod_two_eq_zero_or_one j with h0 | h0
  · have e : j / 2 * 2 = j := by omega
    rw [e] at hg
    exact .inl ⟨e.symm, by rw [hg.1] at h; exact (Option.some.inj h).symm⟩
  · have e : j / 2 * 2 + 1 = j := by omega
    rw [e] at hg
    exact .inr ⟨e.symm, by rw [hg.2] at h; exact (Option.some.inj h).symm⟩
theorem flatK_one (l : List Stk) : ∀ u ∈ flatK l, u.oneCell' = true := by
  intro u hu
  obtain ⟨j, hj, e⟩ := List.mem_iff_getElem.1 hu
  obtain ⟨i, hi, ⟨_, h⟩ | ⟨_, h⟩⟩ := flat2_two (l := pairK l) (j := j) (u := u) (by rw [← e]; exact List.getElem?_eq_getElem hj)
  · rw [h]; simp only [pairK, List.getElem_map]; rfl
  · rw [h]; simp only [pairK, List.getElem_map]; rfl
theorem CellsK.flat {w : World} {b off : Nat} {l : List Stk} (h : CellsK w (some ⟨b, off, none⟩) l) (j : Nat) (u : Value) (hu : (flatK l)[j]? = some u) : w.cell? ((⟨b, off, none⟩ : Addr).add j) = some u := by
  obtain ⟨i, hi, hh⟩ := flat2_two hu
  have hi' : i < l.length := by simpa [pairK] using hi
  obtain ⟨b', off', hb, h1, h2⟩ := h i hi'
  cases hb
  rw [Addr.add_lit]
  rcases hh with ⟨rfl, rfl⟩ | ⟨rfl, rfl⟩
  · rw [h1]; simp [pairK, List.getD, hi']
  · rw [← Nat.add_assoc, h2]; simp [pairK, List.getD, hi']
def OwnsK (w : World) (v : Value) (l : List Stk) : Prop := w.ownsRow 0 67 2 v l.length (flatK l)
theorem OwnsK.nil (w : World) : OwnsK w (.slice none 0 0) [] := World.ownsRow_nil w 0 _ _
theorem OwnsK.ext {A B : World} {v : Value} {l : List Stk} (h : OwnsK A v l) (k : Ext A B) : OwnsK B v l := rowExt h k
theorem OwnsK.reads {A : World} {v : Value} {l : List Stk} (h : OwnsK A v l) : ∃ a cap, v = .slice a l.length cap ∧ CellsK A a l ∧ l.length ≤ maxLen ∧ (∀ b off, a = some ⟨b, off, none⟩ → l ≠ [] → off = 0 ∧ v.ownBlock = some b ∧ ∀ i, i < l.length → A.frozen? ⟨b, i * 2, none⟩ = false ∧ A.frozen? ⟨b, i * 2 + 1, none⟩ = false) := by
  obtain ⟨a, cap, hv, hm, hr⟩ := rowReads h
  refine ⟨a, cap, hv, fun i hi => ?_, hm, fun b off hb hne => ?_⟩
  · obtain ⟨b, hb, _, h1, _⟩ := hr _ _ (flatK_get l i hi).1
    obtain ⟨b', hb', _, h2, _⟩ := hr _ _ (flatK_get l i hi).2
    rw [hb] at hb'
    cases hb'
    exact ⟨b, 0, hb, by rw [Nat.zero_add]; exact h1, by rw [Nat.zero_add]; exact h2⟩
  · have h0 : 0 < l.length := List.length_pos_iff.2 hne
    obtain ⟨b', hb', h3, _, _⟩ := hr _ _ (flatK_get l 0 h0).1
    rw [hb] at hb'
    cases hb'
    refine ⟨rfl, h3, fun i hi => ?_⟩
    obtain ⟨b1, e1, _, _, f1⟩ := hr _ _ (flatK_get l i hi).1
    obtain ⟨b2, e2, _, _, f2⟩ := hr _ _ (flatK_get l i hi).2
    rw [hb] at e1 e2
    cases e1
    cases e2
    exact ⟨f1, f2⟩
theorem OwnsK.slice {A : World} {v : Value} {l : List Stk} (h : OwnsK A v l) : SliceK A v l := by
  obtain ⟨a, cap, h1, h2, h3, _⟩ := h.reads
  exact ⟨a, cap, h1, h2, h3⟩
def StksPost (l : List Stk) (w : World) (e : Ending) (w' : World) : Prop := ∃ v, e = .returned v ∧ OwnsK w' v l ∧ (∀ b, v.ownBlock = some b → w.heap.size ≤ b) ∧ Ext w w'
set_option maxHeartbeats 2000000 in
set_option maxRecDepth 100000 in
theorem CloneK_any (l : List Stk) (eb eo ec : Nat) (w : World) (hn : l.length ≤ 40) (h0 : 0 < l.length) (he : CellsK w (some ⟨eb, eo, none⟩) l) :
    Calls Tryd.prog 61 #[.slice (some ⟨eb, eo, none⟩) l.length ec] w (StksPost l w) := by
  have HE := Lib.hid he
  clear he
  obtain ⟨i0, hi, hi0, hi1, hi2⟩ := info_parts infoStk
  have heq : ∀ w' : World, (binOp .eql 45 (.slice (some ⟨eb, eo, none⟩) l.length ec) (.slice none 0 0)).run Tryd.prog w' = .ok (.bool false) w' := fun w' => Lib.run_eql_slice_nil (P := Tryd.prog) w' 45 67 (some ⟨eb, eo, none⟩) l.length ec 0 0 Tryd.underlying45
  go_enter Tryd.func61, Tryd.ntmps61
  have E1 : Ext w (w.alloc (.cells #[] 67)) := extA
  have hown : (w.alloc (.cells #[] 67)).ownsRow 0 67 2 (.slice (some ⟨w.heap.size, 0, none⟩) 0 0) 0 [] :=
    World.ownsRow_made (w := w) (base := 0) (e := 67) (size := 2) #[] 0 (Nat.zero_le _) (Nat.zero_le _) rfl
  have ez : (w.alloc (.cells #[] 67)).heap.size = w.heap.size + 1 := by simp
  go_wp2_with (at_builtin; refine wpList_append1 _ rfl _ _ 45 rfl 67 i0 (.agg #[.int .i64 0, .bool false]) 2 16 Tryd.underlying45 hi hi0 hi1 hi2 rfl (by decide) (.slice (some ⟨w.heap.size, 0, none⟩) 0 0) 0 [] rfl hown ⟨eb, eo, none⟩ l.length ec h0 (flatK l) rfl ?c0 ?c1 ?c2 ?c3 ?c4 ?c5)
  case c0 => exact flatK_length l
  case c1 => exact (HE.out.ext E1).flat
  case c2 => exact flatK_one l
  case c3 => unfold maxLen; omega
  case c4 => omega
  case c5 =>
    intro v' w5 hown5 hend5
    have O5 : Hid (OwnsK w5 v' l) := by
      show OwnsK _ _ _
      unfold OwnsK
      simpa using hown5
    have F5 : Ext w w5 := E1.trans' (hend5.below (n := w.heap.size) (by rw [ez]; omega) (fun b hb => by cases hb; exact Nat.le_refl _)) (Nat.le_refl _)
    have G5 : Hid (∀ b, v'.ownBlock = some b → w.heap.size ≤ b) := hend5.ge (n := w.heap.size) (by rw [ez]; omega) (fun b hb => by cases hb; exact Nat.le_refl _)
    clear hown5 hend5 hown E1 ez
    go_wp2
    go_ret
    exact ⟨_, rfl, O5.out, G5.out, F5⟩
end Go.Proofs.YtdolibeceijnnaaDoor
