/- Steps of the proof: QChk, QAfter, QChkR, QStepsR, QSameF, QFew, AWrd, ACyP, ACyc, ARtR, ACyR. No conditions. -/
import Derived.Deep.OwnRows
import Derived.Test.YtlnonmmaknhppaaGreatDoorZAB1
import Derived.Test.YtlnonmmaknhppaaGreatDoorZAB2
import Derived.Test.YtlnonmmaknhppaaGreatDoorZAB3
import Derived.Test.YtlnonmmaknhppaaGreatDoorZAB4
import Derived.Test.YtlnonmmaknhppaaGreatDoorZAB5
import Derived.Test.YtlnonmmaknhppaaGreatDoorZAB6
import Derived.Test.YtlnonmmaknhppaaGreatDoorZAB7
import Derived.Test.YtlnonmmaknhppaaGreatDoorZAB8
import Derived.Test.YtlnonmmaknhppaaGreatDoorZAB9
import Derived.Test.YtlnonmmaknhppaaGreatDoorZAB10
import Derived.Test.YtlnonmmaknhppaaGreatDoorZAB11
import Derived.Test.YtlnonmmaknhppaaGreatDoorZASum1
namespace Go.Proofs.YtlnonmmaknhppaaGreatDoor
open Go.RowKit
structure CkSt (h : Nat) (W wr : World) (e m : Int → Bool) : Prop where
  be : Below (h + 1) W wr
  x : EndsAt wr (h + 1) e
  m : EndsAt wr (h + 1 + 1) m
theorem CkSt.ext {h : Nat} {W A B : World} {e m : Int → Bool} (k : CkSt h W A e m) (x : Ext A B) : CkSt h W B e m :=
  ⟨k.be.trans (x.mono (Nat.le_trans (by have := cell_lt (k.x 0 (by omega)).1; exact Nat.le_of_lt this) (Nat.le_refl _))), k.x.ext x, k.m.ext x⟩
theorem CkSt.setX {h : Nat} {W A : World} {e m : Int → Bool} (k : CkSt h W A e m) (f : Int → Bool) :
    CkSt h W ((((((A.setCell ⟨h + 1, 0, none⟩ (.bool (f 0))).setCell ⟨h + 1, 1, none⟩ (.bool (f 1))).setCell ⟨h + 1, 2, none⟩ (.bool (f 2))).setCell ⟨h + 1, 3, none⟩ (.bool (f 3))).setCell ⟨h + 1, 4, none⟩ (.bool (f 4))).setCell ⟨h + 1, 5, none⟩ (.bool (f 5))) f m :=
  ⟨((((((k.be.setCell (p := ⟨h + 1, 0, none⟩) (Nat.le_refl _) _).setCell (p := ⟨h + 1, 1, none⟩) (Nat.le_refl _) _).setCell (p := ⟨h + 1, 2, none⟩) (Nat.le_refl _) _).setCell (p := ⟨h + 1, 3, none⟩) (Nat.le_refl _) _).setCell (p := ⟨h + 1, 4, none⟩) (Nat.le_refl _) _).setCell (p := ⟨h + 1, 5, none⟩) (Nat.le_refl _) _),
   k.x.store6 f, (((((k.m.other (by omega) _ _).other (by omega) _ _).other (by omega) _ _).other (by omega) _ _).other (by omega) _ _).other (by omega) _ _⟩
theorem CkSt.setM {h : Nat} {W A : World} {e m : Int → Bool} (k : CkSt h W A e m) {a : Int} (h0 : 0 ≤ a) (h6 : a < 6) : CkSt h W (A.setCell ⟨h + 1 + 1, a.toNat, none⟩ (.bool true)) e (fun i => if i = a then true else m i) :=
  ⟨k.be.setCell (p := ⟨h + 1 + 1, a.toNat, none⟩) (by show h + 1 ≤ h + 1 + 1; omega) _, k.x.other (by omega) _ _, k.m.set h0 h6 true⟩
theorem CkSt.congr {h : Nat} {W A : World} {e m m' : Int → Bool} (k : CkSt h W A e m) (hm : ∀ i, m i = m' i) : CkSt h W A e m' := by rw [← (funext hm : m = m')]; exact k
def MovedAt (l : List Stp) (k : Nat) (st : List Stk) (j : Nat) : Int → Bool := fun a => movedIn a (l.take k) || movesL a (st.take j)
theorem MovedAt_zero (l : List Stp) (k : Nat) (st : List Stk) : MovedAt l k st 0 = fun a => movedIn a (l.take k) := by
  funext a; unfold MovedAt; simp [movesL]
theorem MovedAt_succ (l : List Stp) (k : Nat) (st : List Stk) {j : Nat} (h : j < st.length) (i : Int) : (if i = (st.getD j stk0).1 then true else MovedAt l k st j i) = MovedAt l k st (j + 1) i := by
  unfold MovedAt
  rw [movesL_take i st h]
  by_cases c : i = (st.getD j stk0).1
  · rw [if_pos c, c]; simp
  · have : ((st.getD j stk0).1 == i) = false := by simp; exact fun x => c x.symm
    rw [if_neg c, this]; simp
theorem MovedAt_end (l : List Stp) {k : Nat} (h : k < l.length) (i : Int) : MovedAt l k (l.getD k stp0).1 (l.getD k stp0).1.length i = movedIn i (l.take (k + 1)) := by
  unfold MovedAt
  rw [movedIn_take i l h, List.take_of_length_le (Nat.le_refl _)]
  rfl
theorem sliceEnds (p : Nat) (n : Int) (h0 : 0 ≤ n) (h6 : n ≤ 6) (w : World) : (Instr.sliceAt 216 (.pointer (some ⟨p, 0, none⟩)) none (some (.int .i64 n)) none).run Tryz.prog w = .ok (.slice (some ⟨p, 0, none⟩) n.toNat 6) w := by
  have hu : Tryz.prog.underlying 216 = some (.array (Tryz.prog.arrayLen 216) (Tryz.prog.elem 216)) := by kernel_rfl
  have hl : Tryz.prog.arrayLen 216 = 6 := by kernel_rfl
  have hs : ∀ w, (sizeOf (Tryz.prog.elem 216)).run Tryz.prog w = .ok 1 w := fun _ => by kernel_rfl
  rw [run_sliceAt_array_h w _ _ hu _ _ h0 (by rw [hl]; exact h6), hs, hl]
  simp [slicedAt, Result.andThen, Addr.add]
theorem EndsAt.cells {w : World} {p : Nat} {f : Int → Bool} (h : EndsAt w p f) {n : Nat} (hn : n ≤ 6) : CellsB w (some ⟨p, 0, none⟩) n f := fun i hi => ⟨p, 0, rfl, by rw [Nat.zero_add]; exact (h i (by omega)).1⟩
set_option maxHeartbeats 4000000 in
set_option maxRecDepth 100000 in
theorem Check_any (n : Int) (l : List Stp) (a : Option Addr) (cap : Nat) (w : World) (hl : l.length ≤ maxLen) (hc : CellsP w a l) :
    Calls Tryz.prog 128 #[.agg #[.int .i64 n, .slice a l.length cap]] w fun r w' => r = .returned (.int .i64 (ckSeq (n, l))) ∧ Ext w w' := by
  have HC := Lib.hid hc
  have HL := Lib.hid hl
  unfold maxLen at hl
  clear hc
  have E0 : Ext w (w.alloc (.cells #[.int .i64 n, .slice a l.length cap] 71)) := extA
  by_cases h1 : n < 1
  · have hf : Hid (ckSeq (n, l) = 2) := by show _ = _; unfold ckSeq; rw [if_pos (Or.inl h1)]
    go_enter Tryz.func128, Tryz.ntmps128
    go_wp2
    all_goals go_ret
    all_goals exact ⟨ret_int hf.out.symm, extA⟩
  by_cases h2 : 6 < n
  · have hf : Hid (ckSeq (n, l) = 2) := by show _ = _; unfold ckSeq; rw [if_pos (Or.inr h2)]
    go_enter Tryz.func128, Tryz.ntmps128
    go_wp2
    all_goals go_ret
    all_goals exact ⟨ret_int hf.out.symm, extA⟩
  by_cases h0 : l.length = 0
  · have hf : Hid (ckSeq (n, l) = 13) := by show _ = _; unfold ckSeq; rw [if_neg (by dsimp only; omega), if_pos h0]
    have h0' : ((l.length : Int) == 0) = true := by simp [h0]
    have h0b : (l.length == 0) = true := by simp [h0]
    go_enter Tryz.func128, Tryz.ntmps128
    go_wp2
    all_goals go_ret
    all_goals exact ⟨ret_int hf.out.symm, extA⟩
  have h0' : ((l.length : Int) == 0) = false := beq_eq_false_iff_ne.2 (by omega)
  have h0b : (l.length == 0) = false := beq_eq_false_iff_ne.2 h0
  by_cases h6 : 64 < l.length
  · have hf : Hid (ckSeq (n, l) = 5) := by show _ = _; unfold ckSeq; rw [if_neg (by dsimp only; omega), if_neg h0, if_pos h6]
    go_enter Tryz.func128, Tryz.ntmps128
    go_wp2
    all_goals go_ret
    all_goals exact ⟨ret_int hf.out.symm, extA⟩
  have hf : Hid (ckSeq (n, l) = if ckWalk n none6 l ≠ 0 then ckWalk n none6 l else if (ints n).any (behAll none6 l) then 9 else if (ints n).any (fun a => !movedIn a l) then 13 else 0) := by
    show _ = _; unfold ckSeq; rw [if_neg (by dsimp only; omega), if_neg h0, if_neg h6]
  clear h0
  go_enter Tryz.func128, Tryz.ntmps128
  go_wp2
  have E1 : Ext w (((w.alloc (.cells #[.int .i64 n, .slice a l.length cap] 71)).alloc (.cells #[.bool false, .bool false, .bool false, .bool false, .bool false, .bool false] 216)).alloc (.cells #[.bool false, .bool false, .bool false, .bool false, .bool false, .bool false] 216)) := extA
  have c1 : (((w.alloc (.cells #[.int .i64 n, .slice a l.length cap] 71)).alloc (.cells #[.bool false, .bool false, .bool false, .bool false, .bool false, .bool false] 216)).alloc (.cells #[.bool false, .bool false, .bool false, .bool false, .bool false, .bool false] 216)).cell? ⟨w.heap.size, 0, none⟩ = some (.int .i64 n) := by go_simp
  have c2 : (((w.alloc (.cells #[.int .i64 n, .slice a l.length cap] 71)).alloc (.cells #[.bool false, .bool false, .bool false, .bool false, .bool false, .bool false] 216)).alloc (.cells #[.bool false, .bool false, .bool false, .bool false, .bool false, .bool false] 216)).cell? ⟨w.heap.size, 1, none⟩ = some (.slice a l.length cap) := by go_simp
  have c3 : CkSt w.heap.size (((w.alloc (.cells #[.int .i64 n, .slice a l.length cap] 71)).alloc (.cells #[.bool false, .bool false, .bool false, .bool false, .bool false, .bool false] 216)).alloc (.cells #[.bool false, .bool false, .bool false, .bool false, .bool false, .bool false] 216)) (((w.alloc (.cells #[.int .i64 n, .slice a l.length cap] 71)).alloc (.cells #[.bool false, .bool false, .bool false, .bool false, .bool false, .bool false] 216)).alloc (.cells #[.bool false, .bool false, .bool false, .bool false, .bool false, .bool false] 216)) none6 none6 :=
    ⟨Below.refl _ _, (ends_new (by simp) none6).ext ((Ext.refl _).alloc _), ends_new (by simp) none6⟩
  generalize (((w.alloc (.cells #[.int .i64 n, .slice a l.length cap] 71)).alloc (.cells #[.bool false, .bool false, .bool false, .bool false, .bool false, .bool false] 216)).alloc (.cells #[.bool false, .bool false, .bool false, .bool false, .bool false, .bool false] 216)) = W at E1 c1 c2 c3 ⊢
  have C3 := Lib.hid c3
  clear c3
  have HW : Hid (w.heap.size + 1 ≤ W.heap.size) := by have := cell_lt (C3.out.x 0 (by omega)).1; dsimp only at this; show _ ≤ _; omega
  go_loopw [32] (fun i wr => ∃ k : Nat, k ≤ l.length ∧ i = .int .i64 k ∧ Hid (CkSt w.heap.size W wr (behAll none6 (l.take k)) (fun a => movedIn a (l.take k))) ∧ Hid (ckWalk n (behAll none6 (l.take k)) (l.drop k) = ckWalk n none6 l)) (fun i _ => l.length - (intOf i).toNat)
  case atStart => exact ⟨0, Nat.zero_le _, rfl, C3, by show _ = _; rfl⟩
  case round =>
    obtain ⟨k, hk, rfl, D, hz⟩ := hrel
    clear C3
    have E2 : Ext w wr := E1.trans' D.out.be (by omega)
    have d1 := cellB D.out.be (p := ⟨w.heap.size, 0, none⟩) (by show w.heap.size < _; omega) c1
    have d2 := cellB D.out.be (p := ⟨w.heap.size, 1, none⟩) (by show w.heap.size < _; omega) c2
    have ym := cell_lt (D.out.m 0 (by omega)).1
    dsimp only at ym
    have y1 : w.heap.size < wr.heap.size := by omega
    have y2 : w.heap.size + 1 < wr.heap.size := by omega
    by_cases hlt : k < l.length
    · obtain ⟨b, off, v, ha, e1, hv, e2⟩ := HC.out k hlt
      subst ha
      obtain ⟨sa, sc, rfl, hcs, hls⟩ := hv
      have e1 := E2.cell e1
      have e2 := E2.cell e2
      have hz1 := hz.out
      rw [drop_cons l stp0 hlt] at hz1
      have HZ := Lib.hid (ckWalk_cons hz1)
      have HB := Lib.hid (behAll_take none6 l hlt)
      have HM := Lib.hid (MovedAt_end l hlt)
      have HM2 := Lib.hid (fun st : List Stk => MovedAt_zero l k st)
      have HM3 := Lib.hid (fun (st : List Stk) (j : Nat) (h : j < st.length) (i : Int) => MovedAt_succ l k st h i)
      clear hz1 hz
      generalize l.getD k stp0 = x at e1 e2 hcs hls HZ HB HM
      obtain ⟨st, wait⟩ := x
      dsimp only at e1 e2 hcs hls HZ HB HM
      generalize hg : MovedAt l k st = mm at HM
      have HG := Lib.hid hg
      clear hg
      generalize hee : behAll none6 (l.take k) = ee at D HZ HB
      have HEE := Lib.hid hee
      clear hee
      have HCS := Lib.hid hcs
      have HLS := Lib.hid hls
      clear hcs hls
      have z1 := cell_lt e1
      dsimp only at z1
      have hx6 := D.out.x.six
      obtain ⟨⟨x0, x1, x2, x3, x4, x5⟩, _⟩ := hx6
      by_cases hfit : ckFit n (st, wait) ee = 0
      · have HF := Lib.hid hfit
        have HO := Lib.hid (ckFit_ok hfit)
        have HZ2 := Lib.hid (HZ.out.2 hfit)
        clear hfit HZ
        go_wp2_with fail
        have F1 : Ext w (wr.alloc (.cells #[.slice sa st.length sc, .int .i64 wait] 128)) := extA
        have D1 : Hid (CkSt w.heap.size W (wr.alloc (.cells #[.slice sa st.length sc, .int .i64 wait] 128)) ee (fun a => movedIn a (l.take k))) := D.out.ext ((Ext.refl _).alloc _)
        have f1 : (wr.alloc (.cells #[.slice sa st.length sc, .int .i64 wait] 128)).cell? ⟨wr.heap.size, 0, none⟩ = some (.slice sa st.length sc) := by go_simp
        have f2 : (wr.alloc (.cells #[.slice sa st.length sc, .int .i64 wait] 128)).cell? ⟨wr.heap.size, 1, none⟩ = some (.int .i64 wait) := by go_simp
        have HW1 : Hid (w.heap.size + 1 + 1 < wr.heap.size) := ym
        generalize wr.alloc (.cells #[.slice sa st.length sc, .int .i64 wait] 128) = W1 at F1 D1 f1 f2 ⊢
        clear x0 x1 x2 x3 x4 x5 d1 d2
        refine (fits_any n _ st wait sa sc ee _ HLS.out (HCS.out.ext F1)).mono ?_
        rintro r w2 ⟨rfl, hE2⟩
        rw [HF.out]
        have F2 := F1.trans hE2
        have D2 : Hid (CkSt w.heap.size W w2 ee (fun a => movedIn a (l.take k))) := D1.out.ext hE2
        have f1 := hE2.cell f1
        have f2 := hE2.cell f2
        obtain ⟨⟨x0, x1, x2, x3, x4, x5⟩, g0, g1, g2, g3, g4, g5⟩ := D2.out.x.six
        go_wp2_with fail
        refine (behind_any st wait sa sc ee _ HLS.out (HCS.out.ext F2) (ckStep_known HO.out.1)).mono ?_
        rintro r w3 ⟨rfl, hE3⟩
        have F3 := F2.trans hE3
        have D3 : Hid (CkSt w.heap.size W w3 ee (fun a => movedIn a (l.take k))) := D2.out.ext hE3
        have f1 := hE3.cell f1
        have f2 := hE3.cell f2
        have hq6 : st.length ≤ 6 := (ckStep_strokes HO.out.1).2.1
        have HKN : Hid (Known st) := ckStep_known HO.out.1
        clear x0 x1 x2 x3 x4 x5 g0 g1 g2 g3 g4 g5
        obtain ⟨⟨x0, x1, x2, x3, x4, x5⟩, g0, g1, g2, g3, g4, g5⟩ := D3.out.x.six
        generalize beh ee st = ff at HB HZ2 ⊢
        unfold endsV
        have hsz : wr.heap.size < w3.heap.size := cell_lt f1
        go_wp2
        have F4 : Ext w ((((((w3.setCell ⟨w.heap.size + 1, 0, none⟩ (.bool (ff 0))).setCell ⟨w.heap.size + 1, 1, none⟩ (.bool (ff 1))).setCell ⟨w.heap.size + 1, 2, none⟩ (.bool (ff 2))).setCell ⟨w.heap.size + 1, 3, none⟩ (.bool (ff 3))).setCell ⟨w.heap.size + 1, 4, none⟩ (.bool (ff 4))).setCell ⟨w.heap.size + 1, 5, none⟩ (.bool (ff 5))) := extA
        have D4 : Hid (CkSt w.heap.size W ((((((w3.setCell ⟨w.heap.size + 1, 0, none⟩ (.bool (ff 0))).setCell ⟨w.heap.size + 1, 1, none⟩ (.bool (ff 1))).setCell ⟨w.heap.size + 1, 2, none⟩ (.bool (ff 2))).setCell ⟨w.heap.size + 1, 3, none⟩ (.bool (ff 3))).setCell ⟨w.heap.size + 1, 4, none⟩ (.bool (ff 4))).setCell ⟨w.heap.size + 1, 5, none⟩ (.bool (ff 5))) ff (fun a => movedIn a (l.take k))) := D3.out.setX ff
        have B4 : Below (w.heap.size + 1) w3 ((((((w3.setCell ⟨w.heap.size + 1, 0, none⟩ (.bool (ff 0))).setCell ⟨w.heap.size + 1, 1, none⟩ (.bool (ff 1))).setCell ⟨w.heap.size + 1, 2, none⟩ (.bool (ff 2))).setCell ⟨w.heap.size + 1, 3, none⟩ (.bool (ff 3))).setCell ⟨w.heap.size + 1, 4, none⟩ (.bool (ff 4))).setCell ⟨w.heap.size + 1, 5, none⟩ (.bool (ff 5))) :=
          ((((((Below.refl _ _).setCell (p := ⟨w.heap.size + 1, 0, none⟩) (Nat.le_refl _) _).setCell (p := ⟨w.heap.size + 1, 1, none⟩) (Nat.le_refl _) _).setCell (p := ⟨w.heap.size + 1, 2, none⟩) (Nat.le_refl _) _).setCell (p := ⟨w.heap.size + 1, 3, none⟩) (Nat.le_refl _) _).setCell (p := ⟨w.heap.size + 1, 4, none⟩) (Nat.le_refl _) _).setCell (p := ⟨w.heap.size + 1, 5, none⟩) (Nat.le_refl _) _
        have hs4 : ((((((w3.setCell ⟨w.heap.size + 1, 0, none⟩ (.bool (ff 0))).setCell ⟨w.heap.size + 1, 1, none⟩ (.bool (ff 1))).setCell ⟨w.heap.size + 1, 2, none⟩ (.bool (ff 2))).setCell ⟨w.heap.size + 1, 3, none⟩ (.bool (ff 3))).setCell ⟨w.heap.size + 1, 4, none⟩ (.bool (ff 4))).setCell ⟨w.heap.size + 1, 5, none⟩ (.bool (ff 5))).heap.size = w3.heap.size := by simp
        generalize (((((w3.setCell ⟨w.heap.size + 1, 0, none⟩ (.bool (ff 0))).setCell ⟨w.heap.size + 1, 1, none⟩ (.bool (ff 1))).setCell ⟨w.heap.size + 1, 2, none⟩ (.bool (ff 2))).setCell ⟨w.heap.size + 1, 3, none⟩ (.bool (ff 3))).setCell ⟨w.heap.size + 1, 4, none⟩ (.bool (ff 4))).setCell ⟨w.heap.size + 1, 5, none⟩ (.bool (ff 5)) = w4 at F4 D4 B4 hs4 ⊢
        clear x0 x1 x2 x3 x4 x5 g0 g1 g2 g3 g4 g5 hs4
        have DM : Hid (CkSt w.heap.size W w4 ff (mm 0)) := by
          show CkSt _ _ _ _ _
          rw [← HG.out]
          exact D4.out.congr (fun i => by rw [HM2.out])
        obtain ⟨wo, rfl⟩ : ∃ wo : World, wo = wr := ⟨_, rfl⟩
        go_loopw [49] (fun j w5 => ∃ q : Nat, q ≤ st.length ∧ j = .int .i64 q ∧ Ext w w5 ∧ Hid (CkSt w.heap.size W w5 ff (mm q))) (fun j _ => st.length - (intOf j).toNat)
        case atStart => exact ⟨0, Nat.zero_le _, rfl, F4, DM⟩
        case round =>
          obtain ⟨q, hq, rfl, G5, DQ⟩ := hrel
          clear DM
          by_cases hltq : q < st.length
          · obtain ⟨b', off', ha', p1, p2⟩ := HCS.out.ext G5 q hltq
            subst ha'
            have hkn := HKN.out q hltq
            have HS := Lib.hid (HM3.out st q hltq)
            generalize st.getD q stk0 = y at p1 p2 hkn HS
            obtain ⟨ya, yo⟩ := y
            dsimp only at p1 p2 hkn HS
            obtain ⟨g0, g6⟩ := hkn
            obtain ⟨m1, m2⟩ := DQ.out.m ya.toNat (by omega)
            rw [Int.toNat_of_nonneg g0] at m1
            have zq := cell_lt p1
            have zm := cell_lt m1
            dsimp only at zq zm
            have DN : Hid (CkSt w.heap.size W ((wr.setCell ⟨w.heap.size + 1 + 1, ya.toNat, none⟩ (.bool true)).alloc (.cells #[.int .i64 ya, .bool yo] 84)) ff (mm (q + 1))) := by
              show CkSt _ _ _ _ _
              refine ((DQ.out.setM g0 g6).congr fun i => ?_).ext ((Ext.refl _).alloc _)
              rw [← HG.out]
              exact HS.out i
            have EN : Ext w ((wr.setCell ⟨w.heap.size + 1 + 1, ya.toNat, none⟩ (.bool true)).alloc (.cells #[.int .i64 ya, .bool yo] 84)) := extA
            clear DQ HS
            go_wp2
            refine ⟨⟨q + 1, by omega, by go_num, EN, DN⟩, by simp [intOf]; omega⟩
          · have DE : Hid (CkSt w.heap.size W wr (behAll none6 (l.take (k + 1))) (fun a => movedIn a (l.take (k + 1)))) := by
              show CkSt _ _ _ _ _
              rw [HB.out]
              have hqe : q = st.length := by omega
              subst hqe
              exact DQ.out.congr HM.out
            have ZE : Hid (ckWalk n (behAll none6 (l.take (k + 1))) (l.drop (k + 1)) = ckWalk n none6 l) := by
              show _ = _
              rw [HB.out]; exact HZ2.out
            clear DQ
            go_wp2
            refine ⟨⟨k + 1, by omega, by go_num, DE, ZE⟩, by simp [intOf]; omega⟩
      · have hfit' : (ckFit n (st, wait) ee != 0) = true := by simp [hfit]
        have HF : Hid (ckSeq (n, l) = ckFit n (st, wait) ee) := by
          show _ = _
          have h := HZ.out.1 hfit
          rw [hf.out, h, if_pos hfit]
        clear hfit HZ
        generalize hcf : ckFit n (st, wait) ee = cf at HF hfit'
        have HCF := Lib.hid hcf
        clear hcf
        go_wp2_with fail
        have F1 : Ext w (wr.alloc (.cells #[.slice sa st.length sc, .int .i64 wait] 128)) := extA
        refine (fits_any n _ st wait sa sc ee _ HLS.out (HCS.out.ext F1)).mono ?_
        rintro r w2 ⟨rfl, hE2⟩
        rw [HCF.out]
        go_wp2
        go_ret
        exact ⟨ret_int HF.out.symm, extA⟩
    · have hlt' : l.take k = l := List.take_of_length_le (by omega)
      have hz1 := hz.out
      rw [List.drop_eq_nil_of_le (by omega)] at hz1
      have hz0 : ckWalk n none6 l = 0 := hz1.symm
      have HFF : Hid (ckSeq (n, l) = if any6 (behAll none6 l) then 9 else if hasB n.toNat (fun a => movedIn a l) false then 13 else 0) := by
        show _ = _
        rw [hf.out, hz0, any6_ints h1 h2 hz0, hasB_ints]
        rfl
      rw [hlt'] at D
      clear hz1 hz0 hz hlt' hf
      generalize behAll none6 l = ee at D HFF
      obtain ⟨⟨x0, x1, x2, x3, x4, x5⟩, g0, g1, g2, g3, g4, g5⟩ := D.out.x.six
      have hneq := fun w => neqEnds (ee 0) (ee 1) (ee 2) (ee 3) (ee 4) (ee 5) w
      have hzz : ∀ w, (zeroValue 216).run Tryz.prog w = .ok (.agg #[.bool false, .bool false, .bool false, .bool false, .bool false, .bool false]) w := fun _ => by kernel_rfl
      have DM := Lib.hid D.out.m
      clear D
      cases h9 : any6 ee
      · unfold any6 at h9
        rw [h9] at hneq
        have HF2 : Hid (ckSeq (n, l) = if hasB n.toNat (fun a => movedIn a l) false then 13 else 0) := by
          show _ = _
          rw [HFF.out, if_neg (by unfold any6; rw [h9]; simp)]
        clear h9 HFF
        have hn3 : n.toNat ≤ 6 := by omega
        have hsl := fun w' => sliceEnds (w.heap.size + 1 + 1) n (by omega) h2 w'
        have HCB := Lib.hid (DM.out.cells hn3)
        cases hh : hasB n.toNat (fun a => movedIn a l) false
        · rw [hh] at HF2
          have HH := Lib.hid hh
          clear hh
          go_wp2_with ((refine (ContainsB_any n.toNat (fun a => movedIn a l) false _ 6 _ (by unfold maxLen; omega) HCB.out).mono ?_); rintro e w1 ⟨rfl, rfl⟩; rw [HH.out])
          go_ret
          exact ⟨ret_int HF2.out.symm, extA⟩
        · rw [hh] at HF2
          have HH := Lib.hid hh
          clear hh
          go_wp2_with ((refine (ContainsB_any n.toNat (fun a => movedIn a l) false _ 6 _ (by unfold maxLen; omega) HCB.out).mono ?_); rintro e w1 ⟨rfl, rfl⟩; rw [HH.out])
          go_ret
          exact ⟨ret_int HF2.out.symm, extA⟩
      · have HF2 : Hid (ckSeq (n, l) = 9) := by
          show _ = _
          rw [HFF.out, if_pos h9]
        unfold any6 at h9
        rw [h9] at hneq
        clear h9
        go_wp2
        go_ret
        exact ⟨ret_int HF2.out.symm, extA⟩
end Go.Proofs.YtlnonmmaknhppaaGreatDoor
namespace Go.Proofs.YtlnonmmaknhppaaGreatDoor
open Go.RowKit
theorem infoBool : (Tryz.prog.info? 4).map (fun i => (i.zero, i.size, i.bytes)) = some (some (.bool false), 1, 1) := by kernel_rfl
def BoolsAt (w : World) (p n : Nat) (e : Int → Bool) : Prop := ∀ k : Nat, k < n → w.cell? ⟨p, k, none⟩ = some (.bool (e k)) ∧ w.frozen? ⟨p, k, none⟩ = false
theorem BoolsAt.ext {w w' : World} {p n : Nat} {e : Int → Bool} (h : BoolsAt w p n e) (he : Ext w w') : BoolsAt w' p n e := fun k hk =>
  ⟨he.cell (h k hk).1, (Below.frozen (p := ⟨p, k, none⟩) he (cell_lt (h k hk).1)).trans (h k hk).2⟩
theorem BoolsAt.set {w : World} {p n : Nat} {e : Int → Bool} (h : BoolsAt w p n e) {a : Int} (h0 : 0 ≤ a) (_h6 : a < n) (b : Bool) : BoolsAt (w.setCell ⟨p, a.toNat, none⟩ (.bool b)) p n (fun i => if i = a then b else e i) := fun k hk => by
  refine ⟨?_, by rw [World.frozen?_setCell]; exact (h k hk).2⟩
  by_cases c : k = a.toNat
  · subst c
    rw [World.cell?_setCell_same _ _ _ (h _ hk).1]; show _ = some (Value.bool (if _ then _ else _)); rw [if_pos (by omega)]
  · rw [World.cell?_setCell_other _ _ _ _ (fun x => by simp only [Addr.mk.injEq] at x; omega), (h k hk).1]; show _ = some (Value.bool (if _ then _ else _)); rw [if_neg (by omega)]
theorem BoolsAt.cells {w : World} {p n : Nat} {f : Int → Bool} (h : BoolsAt w p n f) : CellsB w (some ⟨p, 0, none⟩) n f := fun i hi => ⟨p, 0, rfl, by rw [Nat.zero_add]; exact (h i hi).1⟩
def boolsL (n : Nat) (f : Int → Bool) : List Value := (List.range n).map fun i : Nat => Value.bool (f (i : Int))
theorem boolsL_get {n : Nat} {f : Int → Bool} {i : Nat} {u : Value} (h : (boolsL n f)[i]? = some u) : i < n ∧ u = .bool (f i) := by
  unfold boolsL at h
  rw [List.getElem?_map] at h
  by_cases hi : i < n
  · rw [List.getElem?_range hi] at h; exact ⟨hi, by simpa using h.symm⟩
  · rw [List.getElem?_eq_none (by simpa using hi)] at h; cases h
theorem boolsL_at {n : Nat} {f : Int → Bool} {i : Nat} (h : i < n) : (boolsL n f)[i]? = some (.bool (f i)) := by
  unfold boolsL
  rw [List.getElem?_map, List.getElem?_range h]; rfl
def BoolsPost (n : Nat) (f : Int → Bool) (w : World) (r : Ending) (w' : World) : Prop := ∃ g c, r = .returned (.slice (some ⟨g, 0, none⟩) n c) ∧ BoolsAt w' g n f ∧ w.heap.size ≤ g ∧ Ext w w'
theorem rowBools {w : World} {v : Value} {n : Nat} {f : Int → Bool} (h0 : 0 < n) (h : w.ownsRow 0 4 1 v n (boolsL n f)) : ∃ g c, v = .slice (some ⟨g, 0, none⟩) n c ∧ v.ownBlock = some g ∧ BoolsAt w g n f := by
  obtain ⟨a, c, hv, _, hr⟩ := rowReads h
  obtain ⟨g, ha, hg, _, _⟩ := hr 0 _ (boolsL_at h0)
  subst ha
  refine ⟨g, c, hv, hg, fun i hi => ?_⟩
  obtain ⟨b, hb, _, h1, h2⟩ := hr i _ (boolsL_at hi)
  injection hb with hb
  injection hb with hb _ _
  subst hb
  exact ⟨h1, h2⟩
set_option maxHeartbeats 2000000 in
set_option maxRecDepth 100000 in
theorem AfterR_any (l : List Stk) (wait : Int) (a : Option Addr) (cap : Nat) (n : Nat) (f : Int → Bool) (eb eo ec : Nat) (w : World) (hl : l.length ≤ maxLen) (hc : CellsK w a l) (hn : n ≤ 6) (h0 : 0 < n) (he : CellsB w (some ⟨eb, eo, none⟩) n f) (hk : ∀ k, k < l.length → 0 ≤ (l.getD k stk0).1 ∧ (l.getD k stk0).1 < n) :
    Calls Tryz.prog 135 #[.agg #[.slice a l.length cap, .int .i64 wait], .slice (some ⟨eb, eo, none⟩) n ec] w (BoolsPost n (beh f l) w) := by
  have HC := Lib.hid hc
  have HE := Lib.hid he
  have HK := Lib.hid hk
  clear hc he hk
  unfold maxLen at hl
  obtain ⟨i0, hi, hi0, hi1, hi2⟩ := info_parts infoBool
  go_enter Tryz.func135, Tryz.ntmps135
  have E1 : Ext w ((w.alloc (.cells #[.slice a l.length cap, .int .i64 wait] 128)).alloc (.cells #[] 4)) := extA
  have e1 : ((w.alloc (.cells #[.slice a l.length cap, .int .i64 wait] 128)).alloc (.cells #[] 4)).cell? ⟨w.heap.size, 0, none⟩ = some (.slice a l.length cap) := by go_simp
  have hown : ((w.alloc (.cells #[.slice a l.length cap, .int .i64 wait] 128)).alloc (.cells #[] 4)).ownsRow 0 4 1 (.slice (some ⟨w.heap.size + 1, 0, none⟩) 0 0) 0 [] := by
    have := World.ownsRow_made (w := w.alloc (.cells #[.slice a l.length cap, .int .i64 wait] 128)) (base := 0) (e := 4) (size := 1) #[] 0 (Nat.zero_le _) (Nat.zero_le _) rfl
    simpa using this
  have ez : ((w.alloc (.cells #[.slice a l.length cap, .int .i64 wait] 128)).alloc (.cells #[] 4)).heap.size = w.heap.size + 2 := by simp
  go_wp2_with (at_builtin; refine wpList_append1 _ rfl _ _ 180 rfl 4 i0 (.bool false) 1 1 Tryz.underlying180 hi hi0 hi1 hi2 rfl (by decide) (.slice (some ⟨w.heap.size + 1, 0, none⟩) 0 0) 0 [] rfl hown ⟨eb, eo, none⟩ n ec h0 (boolsL n f) rfl ?c0 ?c1 ?c2 ?c3 ?c4 ?c5)
  case c0 => simp [boolsL]
  case c1 =>
    intro j u hu
    obtain ⟨hj, rfl⟩ := boolsL_get hu
    obtain ⟨b, off, hb, hcell⟩ := HE.out.ext E1 j hj
    cases hb
    rw [Addr.add_lit]; exact hcell
  case c2 => intro u hu; unfold boolsL at hu; simp at hu; obtain ⟨i, _, rfl⟩ := hu; rfl
  case c3 => unfold maxLen; omega
  case c4 => omega
  case c5 =>
    intro v' w5 hown5 hend5
    obtain ⟨g, c, rfl, hg, hb⟩ := rowBools h0 hown5
    have B5 : Below (w.heap.size + 1) _ w5 := hend5.below (n := w.heap.size + 1) (by rw [ez]; omega) (fun b hb => by cases hb; exact Nat.le_refl _)
    have G5 := Lib.hid (hend5.ge (n := w.heap.size + 1) (by rw [ez]; omega) (fun b hb => by cases hb; exact Nat.le_refl _) g hg)
    have F5 : Ext w w5 := E1.trans' B5 (by omega)
    have e1 := cellB B5 (p := ⟨w.heap.size, 0, none⟩) (by show w.heap.size < _; omega) e1
    have HB := Lib.hid hb
    have Z5 := Lib.hid B5.size
    clear hown5 hend5 hg hb hown B5 E1 ez
    go_wp2
    go_loopw [6] (fun i wr => ∃ k : Nat, k ≤ l.length ∧ i = .int .i64 k ∧ Below (w.heap.size + 1) w5 wr ∧ Hid (BoolsAt wr g n (beh f (l.take k)))) (fun i _ => l.length - (intOf i).toNat)
    case atStart => exact ⟨0, Nat.zero_le _, rfl, Below.refl _ _, HB⟩
    case round =>
      obtain ⟨k, hk, rfl, hbe, D⟩ := hrel
      have F6 : Ext w wr := F5.trans' hbe (by omega)
      have d1 := cellB hbe (p := ⟨w.heap.size, 0, none⟩) (by show w.heap.size < _; omega) e1
      clear HB
      by_cases hlt : k < l.length
      · obtain ⟨b, off, ha, p1, p2⟩ := HC.out.ext F6 k hlt
        subst ha
        have hkn := HK.out k hlt
        have HB := Lib.hid (beh_take f l hlt)
        generalize l.getD k stk0 = y at p1 p2 hkn HB
        obtain ⟨ya, yo⟩ := y
        dsimp only at p1 p2 hkn HB
        obtain ⟨g0, g6⟩ := hkn
        obtain ⟨m1, m2⟩ := D.out ya.toNat (by omega)
        have hta : ya.toNat < n := by omega
        have z1 := cell_lt p1
        have z2 := cell_lt m1
        dsimp only at z1 z2
        have hG5 := G5.out
        have DN : Hid (BoolsAt (wr.setCell ⟨g, ya.toNat, none⟩ (.bool yo)).drew g n (beh f (l.take (k + 1)))) := by
          show BoolsAt _ _ _ _
          rw [HB.out]
          exact (D.out.set g0 g6 yo).ext (Ext.refl _).drew
        have BN : Below (w.heap.size + 1) w5 (wr.setCell ⟨g, ya.toNat, none⟩ (.bool yo)).drew := (hbe.setCell (p := ⟨g, ya.toNat, none⟩) hG5 _).drew
        go_wp2
        go_still_tail 14, (by kernel_rfl)
        go_wp2
        refine ⟨⟨k + 1, by omega, by go_num, BN, DN⟩, by simp [intOf]; omega⟩
      · have ht : l.take k = l := List.take_of_length_le (by omega)
        rw [ht] at D
        have hG5 := G5.out
        clear ht
        go_wp2
        go_ret
        exact ⟨g, c, rfl, D.out, by omega, F6⟩
theorem same_drop' {f : Int → Bool} {l : List Stk} {k : Nat} (h : k < l.length) {b : Bool} (e : anySame f (l.drop k) = b) : (f (l.getD k stk0).1 == (l.getD k stk0).2) = true ∧ b = true ∨ (f (l.getD k stk0).1 == (l.getD k stk0).2) = false ∧ anySame f (l.drop (k + 1)) = b := by
  have := same_drop h e
  cases c : (f (l.getD k stk0).1 == (l.getD k stk0).2)
  · rw [c, Bool.false_or] at this; exact .inr ⟨rfl, this⟩
  · rw [c, Bool.true_or] at this; exact .inl ⟨rfl, this.symm⟩
set_option maxHeartbeats 2000000 in
theorem SuitsR_any (l : List Stk) (wait : Int) (a : Option Addr) (cap : Nat) (n : Nat) (f : Int → Bool) (ea : Option Addr) (ec : Nat) (w : World) (hl : l.length ≤ maxLen) (hc : CellsK w a l) (_hn : n ≤ 6) (he : CellsB w ea n f) (hk : ∀ k, k < l.length → 0 ≤ (l.getD k stk0).1 ∧ (l.getD k stk0).1 < n) :
    Calls Tryz.prog 134 #[.agg #[.slice a l.length cap, .int .i64 wait], .slice ea n ec] w fun r w' => r = .returned (.bool (!anySame f l)) ∧ Ext w w' := by
  have HC := Lib.hid hc
  have HE := Lib.hid he
  have HK := Lib.hid hk
  clear hc he hk
  unfold maxLen at hl
  go_enter Tryz.func134, Tryz.ntmps134
  go_wp2
  have E1 : Ext w (w.alloc (.cells #[.slice a l.length cap, .int .i64 wait] 128)) := extA
  have e1 : (w.alloc (.cells #[.slice a l.length cap, .int .i64 wait] 128)).cell? ⟨w.heap.size, 0, none⟩ = some (.slice a l.length cap) := by go_simp
  generalize w.alloc (.cells #[.slice a l.length cap, .int .i64 wait] 128) = W at E1 e1 ⊢
  go_loopw [5] (fun i wr => ∃ k : Nat, k ≤ l.length ∧ i = .int .i64 k ∧ Hid (anySame f (l.drop k) = anySame f l) ∧ Ext W wr) (fun i _ => l.length - (intOf i).toNat)
  case atStart => exact ⟨0, Nat.zero_le _, rfl, by show _ = _; rfl, Ext.refl _⟩
  case round =>
    obtain ⟨k, hk, rfl, hz, he⟩ := hrel
    have d1 := he.cell e1
    have y1 := cell_lt d1
    dsimp only at y1
    by_cases hlt : k < l.length
    · obtain ⟨b, off, ha, p1, p2⟩ := HC.out.ext (E1.trans he) k hlt
      subst ha
      have hkn := HK.out k hlt
      have HZ := Lib.hid (same_drop' hlt hz.out)
      clear hz
      generalize l.getD k stk0 = y at p1 p2 hkn HZ
      obtain ⟨ya, yo⟩ := y
      dsimp only at p1 p2 hkn HZ
      obtain ⟨g0, g6⟩ := hkn
      obtain ⟨b', off', hb', m1⟩ := HE.out.ext (E1.trans he) ya.toNat (by omega)
      subst hb'
      rw [Int.toNat_of_nonneg g0] at m1
      have z1 := cell_lt p1
      have z2 := cell_lt m1
      dsimp only at z1 z2
      have hng : decide ((n : Int) ≤ ya) = false := by simp; omega
      rcases HZ.out with ⟨h1, h2⟩ | ⟨h1, h2⟩
      · have H2 := Lib.hid h2
        clear h2 HZ
        go_wp2
        go_quiet (fail)
        go_wp2
        go_ret
        exact ⟨ret_bool (by rw [H2.out]; rfl), extA⟩
      · have H2 := Lib.hid h2
        clear h2 HZ
        go_wp2
        go_quiet (fail)
        go_wp2
        refine ⟨⟨k + 1, by omega, by go_num, H2, extA⟩, by simp [intOf]; omega⟩
    · have hz1 := hz.out
      rw [List.drop_eq_nil_of_le (by omega)] at hz1
      have H2 := Lib.hid hz1
      clear hz1 hz
      go_wp2
      go_ret
      exact ⟨ret_bool (by rw [← H2.out]; rfl), extA⟩
def wayL (a : Int) : List Stk → Int
  | [] => 0
  | y :: l => if y.1 = a then (if y.2 then 1 else -1) else wayL a l
theorem wayL_drop {a : Int} {l : List Stk} {k : Nat} (h : k < l.length) {r : Int} (e : wayL a (l.drop k) = r) : ((l.getD k stk0).1 = a ∧ r = if (l.getD k stk0).2 then 1 else -1) ∨ (((l.getD k stk0).1 == a) = false ∧ wayL a (l.drop (k + 1)) = r) := by
  rw [drop_cons l stk0 h] at e
  unfold wayL at e
  by_cases c : (l.getD k stk0).1 = a
  · rw [if_pos c] at e; exact .inl ⟨c, e.symm⟩
  · rw [if_neg c] at e; exact .inr ⟨by simpa using c, e⟩
set_option maxHeartbeats 2000000 in
theorem WayR_any (l : List Stk) (wait : Int) (x : Int) (a : Option Addr) (cap : Nat) (w : World) (hl : l.length ≤ maxLen) (hc : CellsK w a l) :
    Calls Tryz.prog 136 #[.agg #[.slice a l.length cap, .int .i64 wait], .int .i64 x] w fun r w' => r = .returned (.int .i64 (wayL x l)) ∧ Ext w w' := by
  have HC := Lib.hid hc
  clear hc
  unfold maxLen at hl
  go_enter Tryz.func136, Tryz.ntmps136
  go_wp2
  have E1 : Ext w (w.alloc (.cells #[.slice a l.length cap, .int .i64 wait] 128)) := extA
  have e1 : (w.alloc (.cells #[.slice a l.length cap, .int .i64 wait] 128)).cell? ⟨w.heap.size, 0, none⟩ = some (.slice a l.length cap) := by go_simp
  generalize w.alloc (.cells #[.slice a l.length cap, .int .i64 wait] 128) = W at E1 e1 ⊢
  go_loopw [5] (fun i wr => ∃ k : Nat, k ≤ l.length ∧ i = .int .i64 k ∧ Hid (wayL x (l.drop k) = wayL x l) ∧ Ext W wr) (fun i _ => l.length - (intOf i).toNat)
  case atStart => exact ⟨0, Nat.zero_le _, rfl, by show _ = _; rfl, Ext.refl _⟩
  case round =>
    obtain ⟨k, hk, rfl, hz, he⟩ := hrel
    have d1 := he.cell e1
    by_cases hlt : k < l.length
    · obtain ⟨b, off, ha, p1, p2⟩ := HC.out.ext (E1.trans he) k hlt
      subst ha
      have HZ := Lib.hid (wayL_drop hlt hz.out)
      clear hz
      generalize l.getD k stk0 = y at p1 p2 HZ
      obtain ⟨ya, yo⟩ := y
      dsimp only at p1 p2 HZ
      have z1 := cell_lt p1
      dsimp only at z1
      rcases HZ.out with ⟨h1, h2⟩ | ⟨h1, h2⟩
      · subst h1
        have H2 := Lib.hid h2
        clear h2 HZ
        cases yo
        · go_wp2
          go_ret
          exact ⟨ret_int (by rw [H2.out]; rfl), extA⟩
        · go_wp2
          go_ret
          exact ⟨ret_int (by rw [H2.out]; rfl), extA⟩
      · have H2 := Lib.hid h2
        clear h2 HZ
        go_wp2
        refine ⟨⟨k + 1, by omega, by go_num, H2, extA⟩, by simp [intOf]; omega⟩
    · have hz1 := hz.out
      rw [List.drop_eq_nil_of_le (by omega)] at hz1
      have H2 := Lib.hid hz1
      clear hz1 hz
      go_wp2
      go_ret
      exact ⟨ret_int (by rw [← H2.out]; rfl), extA⟩
theorem wayL_moves (a : Int) (l : List Stk) : (wayL a l != 0) = movesL a l := by
  induction l with
  | nil => rfl
  | cons y l ih =>
    unfold wayL movesL
    rw [List.any_cons]
    by_cases c : y.1 = a
    · rw [if_pos c, c]
      cases y.2 <;> simp
    · have c' : (y.1 == a) = false := by simpa using c
      rw [if_neg c, c', Bool.false_or, ih]; rfl
end Go.Proofs.YtlnonmmaknhppaaGreatDoor
namespace Go.Proofs.YtlnonmmaknhppaaGreatDoor
open Go.RowKit
theorem makeBools (n : Nat) (hn : n ≤ 64) (w : World) : (Instr.makeSlice 180 (.int .i64 (n : Int)) (.int .i64 (n : Int))).run Tryz.prog w = .ok (.slice (some ⟨w.heap.size, 0, none⟩) n n) (w.alloc (.cells (madeCells #[.bool false] n) 4)) :=
  run_make_row' _ _ (.bool false) 1 Tryz.underlying180 infoBool rfl _ _ n (by omega) (by omega) w
theorem madeBools (w : World) (n : Nat) (t : TypeId) {p : Nat} (hp : w.heap.size = p) : BoolsAt (w.alloc (.cells (madeCells #[.bool false] n) t)) p n none6 := fun k hk => by
  subst hp
  refine ⟨?_, by simp [go_sem]⟩
  rw [World.cell?_alloc_new]
  simp [madeCells, hk, Nat.mod_one, none6]
theorem movedIn_drop {x : Int} {l : List Stp} {k : Nat} (h : k < l.length) {r : Bool} (e : movedIn x (l.drop k) = r) : ((wayL x (l.getD k stp0).1 != 0) = true ∧ r = true) ∨ ((wayL x (l.getD k stp0).1 != 0) = false ∧ movedIn x (l.drop (k + 1)) = r) := by
  rw [drop_cons l stp0 h] at e
  unfold movedIn at e
  rw [List.any_cons] at e
  rw [wayL_moves]
  have : movesIn x (l.getD k stp0) = movesL x (l.getD k stp0).1 := rfl
  rw [this] at e
  cases c : movesL x (l.getD k stp0).1
  · rw [c, Bool.false_or] at e; exact .inr ⟨rfl, e⟩
  · rw [c, Bool.true_or] at e; exact .inl ⟨rfl, e.symm⟩
set_option maxHeartbeats 2000000 in
theorem movesR_any (n : Value) (l : List Stp) (x : Int) (a : Option Addr) (cap : Nat) (w : World) (hl : l.length ≤ maxLen) (hc : CellsP w a l) :
    Calls Tryz.prog 91 #[.agg #[n, .slice a l.length cap], .int .i64 x] w fun r w' => r = .returned (.bool (movedIn x l)) ∧ Ext w w' := by
  have HC := Lib.hid hc
  clear hc
  unfold maxLen at hl
  go_enter Tryz.func91, Tryz.ntmps91
  go_wp2
  have E1 : Ext w (w.alloc (.cells #[n, .slice a l.length cap] 71)) := extA
  have e1 : (w.alloc (.cells #[n, .slice a l.length cap] 71)).cell? ⟨w.heap.size, 1, none⟩ = some (.slice a l.length cap) := by go_simp
  generalize w.alloc (.cells #[n, .slice a l.length cap] 71) = W at E1 e1 ⊢
  go_loopw [5] (fun i wr => ∃ k : Nat, k ≤ l.length ∧ i = .int .i64 k ∧ Hid (movedIn x (l.drop k) = movedIn x l) ∧ Ext W wr) (fun i _ => l.length - (intOf i).toNat)
  case atStart => exact ⟨0, Nat.zero_le _, rfl, by show _ = _; rfl, Ext.refl _⟩
  case round =>
    obtain ⟨k, hk, rfl, hz, he⟩ := hrel
    have d1 := he.cell e1
    by_cases hlt : k < l.length
    · obtain ⟨b, off, v, ha, p1, hv, p2⟩ := HC.out.ext (E1.trans he) k hlt
      subst ha
      obtain ⟨sa, sc, rfl, hcs, hls⟩ := hv
      have HZ := Lib.hid (movedIn_drop hlt hz.out)
      have HCS := Lib.hid hcs
      have HLS := Lib.hid hls
      clear hz hcs hls
      generalize l.getD k stp0 = y at p1 p2 HCS HLS HZ
      obtain ⟨st, wait⟩ := y
      dsimp only at p1 p2 HCS HLS HZ
      have z1 := cell_lt p1
      dsimp only at z1
      rcases HZ.out with ⟨h1, h2⟩ | ⟨h1, h2⟩
      · have H2 := Lib.hid h2
        have H1 := Lib.hid h1
        clear h1 h2 HZ
        go_wp2_with fail
        refine (WayR_any st wait x sa sc _ HLS.out HCS.out).mono ?_
        rintro r w2 ⟨rfl, hE⟩
        have h1 := H1.out
        go_wp2
        go_ret
        exact ⟨ret_bool H2.out.symm, extA⟩
      · have H2 := Lib.hid h2
        have H1 := Lib.hid h1
        clear h1 h2 HZ
        go_wp2_with fail
        refine (WayR_any st wait x sa sc _ HLS.out HCS.out).mono ?_
        rintro r w2 ⟨rfl, hE⟩
        have h1 := H1.out
        go_wp2
        refine ⟨⟨k + 1, by omega, by go_num, H2, extA⟩, by simp [intOf]; omega⟩
    · have hz1 := hz.out
      rw [List.drop_eq_nil_of_le (by omega)] at hz1
      have H2 := Lib.hid hz1
      clear hz1 hz
      go_wp2
      go_ret
      exact ⟨ret_bool (by rw [← H2.out]; rfl), extA⟩
def Fine (n : Int) (l : List Stp) : Prop := ∀ k, k < l.length → ckStep (l.getD k stp0) = 0 ∧ ∀ j, j < (l.getD k stp0).1.length → 0 ≤ ((l.getD k stp0).1.getD j stk0).1 ∧ ((l.getD k stp0).1.getD j stk0).1 < n
theorem ckFit_fine {n : Int} {x : Stp} {e : Int → Bool} (h : ckFit n x e = 0) : ∀ j, j < x.1.length → 0 ≤ (x.1.getD j stk0).1 ∧ (x.1.getD j stk0).1 < n := fun j hj => by
  have hk := ckFit_ok h
  refine ⟨(ckStep_known hk.1 j hj).1, ?_⟩
  have h2 := hk.2.1
  unfold anyHigh at h2
  rw [List.any_eq_false] at h2
  have := h2 (x.1.getD j stk0) (by rw [List.getD_eq_getElem?_getD, List.getElem?_eq_getElem hj]; exact List.getElem_mem hj)
  simp at this
  exact this
theorem ckWalk_fine {n : Int} {l : List Stp} {e : Int → Bool} (h : ckWalk n e l = 0) : Fine n l := by
  induction l generalizing e with
  | nil => intro k hk; simp at hk
  | cons x l ih =>
    have hc := ckWalk_cons h
    by_cases hf : ckFit n x e = 0
    · intro k hk
      cases k with
      | zero => exact ⟨(ckFit_ok hf).1, ckFit_fine hf⟩
      | succ k => exact ih (hc.2 hf) k (by simpa using hk)
    · exact absurd (hc.1 hf).symm hf
end Go.Proofs.YtlnonmmaknhppaaGreatDoor
namespace Go.Proofs.YtlnonmmaknhppaaGreatDoor
open Go.RowKit
theorem CellsB.at {w : World} {p n : Nat} {f : Int → Bool} (h : BoolsAt w p n f) {k : Nat} (hk : k < n) : w.cell? ⟨p, k, none⟩ = some (.bool (f k)) := (h k hk).1
def stepsE (n : Int) (l : List Stp) : Int := if ckWalk n none6 l ≠ 0 then ckWalk n none6 l else if (ints n).any (behAll none6 l) then 9 else 0
theorem ints_any_of {n : Nat} {f : Int → Bool} {k : Nat} (hk : k < n) (h : f k = true) : (ints (n : Int)).any f = true := by
  unfold ints
  rw [List.any_map, Int.toNat_natCast]
  exact List.any_eq_true.2 ⟨k, List.mem_range.2 hk, h⟩
theorem ints_any_none {n : Nat} {f : Int → Bool} (h : ∀ k : Nat, k < n → f k = false) : (ints (n : Int)).any f = false := by
  unfold ints
  rw [List.any_map, Int.toNat_natCast, List.any_eq_false]
  intro k hk
  simp [h k (List.mem_range.1 hk)]
set_option maxHeartbeats 4000000 in
set_option maxRecDepth 100000 in
theorem stepsR_any (n : Nat) (l : List Stp) (a : Option Addr) (cap : Nat) (w : World) (hl : l.length ≤ maxLen) (hc : CellsP w a l) (h0 : 0 < n) (hn : n ≤ 6) :
    Calls Tryz.prog 90 #[.agg #[.int .i64 (n : Int), .slice a l.length cap]] w fun r w' => r = .returned (.int .i64 (stepsE n l)) ∧ Ext w w' := by
  have HC := Lib.hid hc
  clear hc
  unfold maxLen at hl
  have hmk := makeBools n (by omega)
  go_enter Tryz.func90, Tryz.ntmps90
  go_wp2
  have E1 : Ext w ((w.alloc (.cells #[.int .i64 (n : Int), .slice a l.length cap] 71)).alloc (.cells (madeCells #[.bool false] n) 4)) := extA
  have e0 : ((w.alloc (.cells #[.int .i64 (n : Int), .slice a l.length cap] 71)).alloc (.cells (madeCells #[.bool false] n) 4)).cell? ⟨w.heap.size, 0, none⟩ = some (.int .i64 (n : Int)) := by go_simp
  have e1 : ((w.alloc (.cells #[.int .i64 (n : Int), .slice a l.length cap] 71)).alloc (.cells (madeCells #[.bool false] n) 4)).cell? ⟨w.heap.size, 1, none⟩ = some (.slice a l.length cap) := by go_simp
  have hb : BoolsAt ((w.alloc (.cells #[.int .i64 (n : Int), .slice a l.length cap] 71)).alloc (.cells (madeCells #[.bool false] n) 4)) (w.heap.size + 1) n none6 := madeBools _ n _ (by simp)
  have HB := Lib.hid hb
  clear hb hmk
  generalize ((w.alloc (.cells #[.int .i64 (n : Int), .slice a l.length cap] 71)).alloc (.cells (madeCells #[.bool false] n) 4)) = W at E1 e0 e1 HB ⊢
  go_loopw [4, 3] (fun i v wr => ∃ k : Nat, k ≤ l.length ∧ i = .int .i64 k ∧ (∃ g c, v = .slice (some ⟨g, 0, none⟩) n c ∧ Hid (BoolsAt wr g n (behAll none6 (l.take k)))) ∧ Hid (ckWalk n (behAll none6 (l.take k)) (l.drop k) = ckWalk n none6 l) ∧ Ext W wr) (fun i _ _ => l.length - (intOf i).toNat)
  case atStart => exact ⟨0, Nat.zero_le _, rfl, ⟨w.heap.size + 1, n, rfl, HB⟩, by show _ = _; rfl, Ext.refl _⟩
  case round =>
    obtain ⟨k, hk, rfl, ⟨g, c, rfl, D⟩, hz, he⟩ := hrel
    clear HB
    have d0 := he.cell e0
    have d1 := he.cell e1
    have y1 := cell_lt d1
    dsimp only at y1
    by_cases hlt : k < l.length
    · obtain ⟨b, off, v, ha, p1, hv, p2⟩ := HC.out.ext (E1.trans he) k hlt
      subst ha
      obtain ⟨sa, sc, rfl, hcs, hls⟩ := hv
      have hz1 := hz.out
      rw [drop_cons l stp0 hlt] at hz1
      have HZ := Lib.hid (ckWalk_cons hz1)
      have HT := Lib.hid (behAll_take none6 l hlt)
      have HCS := Lib.hid hcs
      have HLS := Lib.hid hls
      clear hcs hls hz1 hz
      generalize l.getD k stp0 = y at p1 p2 HCS HLS HZ HT
      obtain ⟨st, wait⟩ := y
      dsimp only at p1 p2 HCS HLS HZ HT
      generalize hee : behAll none6 (l.take k) = ee at D HZ HT
      have HEE := Lib.hid hee
      clear hee
      have z1 := cell_lt p1
      dsimp only at z1
      go_wp2_with fail
      have F1 : Ext w (wr.alloc (.cells #[.slice sa st.length sc, .int .i64 wait] 128)) := extA
      have f0 := ((Ext.refl wr).alloc (.cells #[.slice sa st.length sc, .int .i64 wait] 128)).cell d0
      have f1 : (wr.alloc (.cells #[.slice sa st.length sc, .int .i64 wait] 128)).cell? ⟨wr.heap.size, 0, none⟩ = some (.slice sa st.length sc) := by go_simp
      have f2 : (wr.alloc (.cells #[.slice sa st.length sc, .int .i64 wait] 128)).cell? ⟨wr.heap.size, 1, none⟩ = some (.int .i64 wait) := by go_simp
      have ER : Ext wr (wr.alloc (.cells #[.slice sa st.length sc, .int .i64 wait] 128)) := extA
      generalize wr.alloc (.cells #[.slice sa st.length sc, .int .i64 wait] 128) = W1 at F1 ER f0 f1 f2 ⊢
      refine (CheckStepR_any st wait sa sc _ HLS.out (HCS.out.ext ER)).mono ?_
      rintro r w2 ⟨rfl, hE⟩
      have F2 := ER.trans hE
      have f0 := hE.cell f0
      have f1 := hE.cell f1
      have f2 := hE.cell f2
      have HLS6 := HLS.out
      unfold maxLen at HLS6
      by_cases h1 : ckStep (st, wait) = 0
      · rw [h1]
        have HFIT : Hid (ckFit n (st, wait) ee = if anyHigh n st then 6 else if anySame ee st then 14 else 0) := by show _ = _; unfold ckFit; rw [if_neg (by simp [h1])]
        have HS := Lib.hid (ckStep_known h1)
        have h6 : st.length ≤ 6 := (ckStep_strokes h1).2.1
        clear h1
        go_wp2
        obtain ⟨wo, rfl⟩ : ∃ wo : World, wo = wr := ⟨_, rfl⟩
        go_loopw [7] (fun j wr => ∃ q : Nat, q ≤ st.length ∧ j = .int .i64 q ∧ Hid (anyHigh n (st.drop q) = anyHigh n st) ∧ Hid (∀ i, i < q → (st.getD i stk0).1 < n) ∧ Ext w2 wr) (fun j _ => st.length - (intOf j).toNat)
        case atStart => exact ⟨0, Nat.zero_le _, rfl, by show _ = _; rfl, fun i hi => by omega, Ext.refl _⟩
        case round =>
          obtain ⟨q, hq, rfl, hzq, hlow, he2⟩ := hrel
          have g0 := he2.cell f0
          have g1 := he2.cell f1
          have g2 := he2.cell f2
          have FW := F2.trans he2
          by_cases hltq : q < st.length
          · obtain ⟨b', off', ha', q1, q2⟩ := HCS.out.ext FW q hltq
            subst ha'
            have HQ := Lib.hid (high_drop hltq hzq.out)
            have HY : Hid (∀ x, (st.getD q stk0).1 = x → x < n → ∀ i, i < q + 1 → (st.getD i stk0).1 < n) := fun x hx hxn i hi => by
              rcases Nat.lt_or_eq_of_le (Nat.le_of_lt_succ hi) with h | rfl
              · exact hlow.out i h
              · rw [hx]; exact hxn
            clear hzq
            generalize st.getD q stk0 = y at q1 q2 HQ HY
            obtain ⟨ya, yo⟩ := y
            dsimp only at q1 q2 HQ HY
            have zq := cell_lt q1
            dsimp only at zq
            by_cases hh : (n : Int) ≤ ya
            · have HR : Hid (stepsE n l = 6) := by
                show _ = _
                have h := HQ.out
                rw [decide_eq_true hh, Bool.true_or] at h
                have hf := HFIT.out
                rw [if_pos h.symm] at hf
                have h3 := HZ.out.1 (by rw [hf]; decide)
                unfold stepsE
                rw [h3, hf]; rfl
              clear HQ
              go_wp2
              go_quiet (fail)
              go_wp2
              go_ret
              exact ⟨ret_int HR.out.symm, extA⟩
            · have HQ2 : Hid (anyHigh n (st.drop (q + 1)) = anyHigh n st) := by
                show _ = _
                have h := HQ.out
                rw [decide_eq_false hh, Bool.false_or] at h
                exact h
              have HL2 : Hid (∀ i, i < q + 1 → (st.getD i stk0).1 < n) := HY.out ya rfl (by omega)
              clear HQ
              go_wp2
              go_quiet (fail)
              go_wp2
              refine ⟨⟨q + 1, by omega, by go_num, HQ2, HL2, extA⟩, by simp [intOf]; omega⟩
          · have hqe : q = st.length := by omega
            have HFL : Hid (∀ j, j < st.length → 0 ≤ (st.getD j stk0).1 ∧ (st.getD j stk0).1 < n) := fun j hj => ⟨(HS.out j hj).1, hlow.out j (by omega)⟩
            have HF3 : Hid (ckFit n (st, wait) ee = if anySame ee st then 14 else 0) := by
              show _ = _
              have h := hzq.out
              rw [List.drop_eq_nil_of_le (by omega)] at h
              rw [HFIT.out, ← h]; rfl
            clear hzq hlow HFIT hqe
            cases hsame : anySame ee st
            · have HF4 : Hid (ckFit n (st, wait) ee = 0) := by show _ = _; rw [HF3.out, hsame]; rfl
              have HSM := Lib.hid hsame
              clear hsame HF3
              go_wp2_with fail
              refine (SuitsR_any st wait sa sc n ee _ c _ HLS.out (HCS.out.ext FW) hn (D.out.ext FW).cells HFL.out).mono ?_
              rintro r w3 ⟨rfl, hE3⟩
              rw [HSM.out]
              have g1 := hE3.cell g1
              have g2 := hE3.cell g2
              have FW3 := FW.trans hE3
              go_wp2_with fail
              refine (AfterR_any st wait sa sc n ee g 0 c _ HLS.out (HCS.out.ext FW3) hn h0 (D.out.ext FW3).cells HFL.out).mono ?_
              rintro r w4 ⟨g4, c4, rfl, hb4, hg4, hE4⟩
              have DN : Hid (BoolsAt w4 g4 n (behAll none6 (l.take (k + 1)))) := by show BoolsAt _ _ _ _; rw [HT.out]; exact hb4
              have ZN : Hid (ckWalk n (behAll none6 (l.take (k + 1))) (l.drop (k + 1)) = ckWalk n none6 l) := by show _ = _; rw [HT.out]; exact HZ.out.2 HF4.out
              clear hb4 D
              go_wp2
              refine ⟨⟨k + 1, by omega, by go_num, ⟨g4, c4, rfl, DN⟩, ZN, extA⟩, by simp [intOf]; omega⟩
            · have HR : Hid (stepsE n l = 14) := by
                show _ = _
                have hf := HF3.out
                rw [if_pos hsame] at hf
                have h3 := HZ.out.1 (by rw [hf]; decide)
                unfold stepsE
                rw [h3, hf]; rfl
              have HSM := Lib.hid hsame
              clear hsame HF3
              go_wp2_with fail
              refine (SuitsR_any st wait sa sc n ee _ c _ HLS.out (HCS.out.ext FW) hn (D.out.ext FW).cells HFL.out).mono ?_
              rintro r w3 ⟨rfl, hE3⟩
              rw [HSM.out]
              go_wp2
              go_ret
              exact ⟨ret_int HR.out.symm, extA⟩
      · have h1' : (ckStep (st, wait) != 0) = true := by simp [h1]
        have HR : Hid (stepsE n l = ckStep (st, wait)) := by
          show _ = _
          have hf : ckFit n (st, wait) ee = ckStep (st, wait) := by unfold ckFit; rw [if_pos h1]
          have h3 := HZ.out.1 (by rw [hf]; exact h1)
          unfold stepsE
          rw [h3, hf, if_pos h1]
        clear h1
        generalize ckStep (st, wait) = cs at h1' HR
        go_wp2
        go_ret
        exact ⟨ret_int HR.out.symm, extA⟩
    · have hlt' : l.take k = l := List.take_of_length_le (by omega)
      have hz1 := hz.out
      rw [List.drop_eq_nil_of_le (by omega)] at hz1
      have HE : Hid (stepsE n l = if (ints n).any (behAll none6 l) then 9 else 0) := by
        show _ = _
        unfold stepsE
        rw [← hz1]; rfl
      rw [hlt'] at D
      clear hz1 hz hlt'
      generalize behAll none6 l = ee at D HE
      go_wp2
      obtain ⟨wo, rfl⟩ : ∃ wo : World, wo = wr := ⟨_, rfl⟩
      go_loopw [8] (fun j wr => ∃ q : Nat, q ≤ n ∧ j = .int .i64 q ∧ Hid (∀ i : Nat, i < q → ee i = false) ∧ wo = wr) (fun j _ => n - (intOf j).toNat)
      case atStart => exact ⟨0, Nat.zero_le _, rfl, fun i hi => by omega, rfl⟩
      case round =>
        obtain ⟨q, hq, rfl, hlow, rfl⟩ := hrel
        by_cases hltq : q < n
        · have m1 := (D.out q hltq).1
          cases hq1 : ee q
          · have HN : Hid (∀ i : Nat, i < q + 1 → ee i = false) := fun i hi => by
              rcases Nat.lt_or_eq_of_le (Nat.le_of_lt_succ hi) with h | rfl
              · exact hlow.out i h
              · exact hq1
            rw [hq1] at m1
            clear hq1
            go_wp2
            refine ⟨⟨q + 1, by omega, by go_num, HN, trivial⟩, by simp [intOf]; omega⟩
          · have HR : Hid (stepsE n l = 9) := by show _ = _; rw [HE.out, if_pos (ints_any_of hltq hq1)]
            rw [hq1] at m1
            clear hq1
            go_wp2
            go_ret
            exact ⟨ret_int HR.out.symm, extA⟩
        · have HR : Hid (stepsE n l = 0) := by
            show _ = _
            rw [HE.out, ints_any_none (fun i hi => hlow.out i (by omega))]; rfl
          go_wp2
          go_ret
          exact ⟨ret_int HR.out.symm, extA⟩
set_option maxHeartbeats 4000000 in
theorem CheckR_any (n : Int) (l : List Stp) (a : Option Addr) (cap : Nat) (w : World) (hl : l.length ≤ maxLen) (hc : CellsP w a l) :
    Calls Tryz.prog 44 #[.agg #[.int .i64 n, .slice a l.length cap]] w fun r w' => r = .returned (.int .i64 (ckSeq (n, l))) ∧ Ext w w' := by
  have HC := Lib.hid hc
  have HL := Lib.hid hl
  unfold maxLen at hl
  clear hc
  by_cases h1 : n < 1
  · have hf : Hid (ckSeq (n, l) = 2) := by show _ = _; unfold ckSeq; rw [if_pos (Or.inl h1)]
    go_enter Tryz.func44, Tryz.ntmps44
    go_wp2
    all_goals go_ret
    all_goals exact ⟨ret_int hf.out.symm, extA⟩
  by_cases h2 : 6 < n
  · have hf : Hid (ckSeq (n, l) = 2) := by show _ = _; unfold ckSeq; rw [if_pos (Or.inr h2)]
    go_enter Tryz.func44, Tryz.ntmps44
    go_wp2
    all_goals go_ret
    all_goals exact ⟨ret_int hf.out.symm, extA⟩
  by_cases h0 : l.length = 0
  · have hf : Hid (ckSeq (n, l) = 13) := by show _ = _; unfold ckSeq; rw [if_neg (by dsimp only; omega), if_pos h0]
    have h0' : ((l.length : Int) == 0) = true := by simp [h0]
    have h0b : (l.length == 0) = true := by simp [h0]
    go_enter Tryz.func44, Tryz.ntmps44
    go_wp2
    all_goals go_ret
    all_goals exact ⟨ret_int hf.out.symm, extA⟩
  have h0' : ((l.length : Int) == 0) = false := beq_eq_false_iff_ne.2 (by omega)
  have h0b : (l.length == 0) = false := beq_eq_false_iff_ne.2 h0
  by_cases h6 : 64 < l.length
  · have hf : Hid (ckSeq (n, l) = 5) := by show _ = _; unfold ckSeq; rw [if_neg (by dsimp only; omega), if_neg h0, if_pos h6]
    go_enter Tryz.func44, Tryz.ntmps44
    go_wp2
    all_goals go_ret
    all_goals exact ⟨ret_int hf.out.symm, extA⟩
  obtain ⟨N, rfl⟩ := Int.eq_ofNat_of_zero_le (show 0 ≤ n by omega)
  have hf : Hid (ckSeq ((N : Int), l) = if stepsE N l ≠ 0 then stepsE N l else if (ints N).any (fun a => !movedIn a l) then 13 else 0) := by
    show _ = _
    unfold ckSeq stepsE
    rw [if_neg (by dsimp only; omega), if_neg h0, if_neg h6]
    dsimp only
    by_cases c1 : ckWalk N none6 l ≠ 0
    · rw [if_pos c1, if_pos c1, if_pos c1]
    · rw [if_neg c1, if_neg c1]
      by_cases c2 : (ints N).any (behAll none6 l) = true
      · rw [if_pos c2, if_pos c2]; rfl
      · rw [if_neg c2, if_neg c2]; rfl
  clear h0
  have hN1 : 0 < N := by omega
  have hN6 : N ≤ 6 := by omega
  go_enter Tryz.func44, Tryz.ntmps44
  go_wp2_with fail
  have E1 : Ext w (w.alloc (.cells #[.int .i64 (N : Int), .slice a l.length cap] 71)) := extA
  have e0 : (w.alloc (.cells #[.int .i64 (N : Int), .slice a l.length cap] 71)).cell? ⟨w.heap.size, 0, none⟩ = some (.int .i64 (N : Int)) := by go_simp
  have e1 : (w.alloc (.cells #[.int .i64 (N : Int), .slice a l.length cap] 71)).cell? ⟨w.heap.size, 1, none⟩ = some (.slice a l.length cap) := by go_simp
  generalize w.alloc (.cells #[.int .i64 (N : Int), .slice a l.length cap] 71) = W at E1 e0 e1 ⊢
  refine (stepsR_any N l a cap _ HL.out (HC.out.ext E1) hN1 hN6).mono ?_
  rintro r w2 ⟨rfl, hE⟩
  have F2 := E1.trans hE
  have e0 := hE.cell e0
  have e1 := hE.cell e1
  by_cases hs : stepsE N l = 0
  · have HF : Hid (ckSeq ((N : Int), l) = if (ints N).any (fun a => !movedIn a l) then 13 else 0) := by show _ = _; rw [hf.out, if_neg (by simp [hs])]
    rw [hs]
    clear hs hf
    go_wp2
    go_loopw [4] (fun j wr => ∃ q : Nat, q ≤ N ∧ j = .int .i64 q ∧ Hid (∀ i : Nat, i < q → movedIn i l = true) ∧ Ext w2 wr) (fun j _ => N - (intOf j).toNat)
    case atStart => exact ⟨0, Nat.zero_le _, rfl, fun i hi => by omega, Ext.refl _⟩
    case round =>
      obtain ⟨q, hq, rfl, hlow, he⟩ := hrel
      have g0 := he.cell e0
      have g1 := he.cell e1
      by_cases hltq : q < N
      · cases hm : movedIn q l
        · have HR : Hid (ckSeq ((N : Int), l) = 13) := by show _ = _; rw [HF.out, if_pos (ints_any_of hltq (by simp [hm]))]
          have HM := Lib.hid hm
          clear hm
          go_wp2_with fail
          refine (movesR_any _ l q a cap _ HL.out (HC.out.ext (F2.trans he))).mono ?_
          rintro r w3 ⟨rfl, hE3⟩
          rw [HM.out]
          go_wp2
          go_ret
          exact ⟨ret_int HR.out.symm, extA⟩
        · have HN : Hid (∀ i : Nat, i < q + 1 → movedIn i l = true) := fun i hi => by
            rcases Nat.lt_or_eq_of_le (Nat.le_of_lt_succ hi) with h | rfl
            · exact hlow.out i h
            · exact hm
          have HM := Lib.hid hm
          clear hm
          go_wp2_with fail
          refine (movesR_any _ l q a cap _ HL.out (HC.out.ext (F2.trans he))).mono ?_
          rintro r w3 ⟨rfl, hE3⟩
          rw [HM.out]
          go_wp2
          refine ⟨⟨q + 1, by omega, by go_num, HN, extA⟩, by simp [intOf]; omega⟩
      · have HR : Hid (ckSeq ((N : Int), l) = 0) := by
          show _ = _
          rw [HF.out, ints_any_none (fun i hi => by simp [hlow.out i (by omega)])]; rfl
        go_wp2
        go_ret
        exact ⟨ret_int HR.out.symm, extA⟩
  · have hs' : (stepsE N l != 0) = true := by simp [hs]
    have HR : Hid (ckSeq ((N : Int), l) = stepsE N l) := by show _ = _; rw [hf.out, if_pos hs]
    clear hs hf
    generalize stepsE N l = x at hs' HR ⊢
    go_wp2
    go_ret
    exact ⟨ret_int HR.out.symm, extA⟩
end Go.Proofs.YtlnonmmaknhppaaGreatDoor
namespace Go.Proofs.YtlnonmmaknhppaaGreatDoor
open Go.RowKit
def sq0 : Sq := (0, [])
def CellsQ (w : World) (a : Option Addr) (l : List Sq) : Prop :=
  ∀ i, i < l.length → ∃ b off v, a = some ⟨b, off, none⟩ ∧ w.cell? ⟨b, off + i * 2, none⟩ = some (.int .i64 (l.getD i sq0).1) ∧ w.cell? ⟨b, off + i * 2 + 1, none⟩ = some v ∧ SliceP w v (l.getD i sq0).2
theorem CellsQ.ext {w w' : World} {a : Option Addr} {l : List Sq} (h : CellsQ w a l) (he : Ext w w') : CellsQ w' a l := fun i hi => by
  obtain ⟨b, off, v, h1, h2, h3, h4⟩ := h i hi
  exact ⟨b, off, v, h1, he.cell h2, he.cell h3, h4.ext he⟩
end Go.Proofs.YtlnonmmaknhppaaGreatDoor
namespace Go.Proofs.YtlnonmmaknhppaaGreatDoor
open Go.RowKit
def fewSt (l : List Stp) : Bool := l.all fun x => decide (x.1.length ≤ 40)
def fewB (l : List Stp) : Bool := decide (l.length ≤ 128) && fewSt l
theorem fewSt_drop {l : List Stp} {k : Nat} (h : k < l.length) {b : Bool} (e : fewSt (l.drop k) = b) : (40 < (l.getD k stp0).1.length ∧ b = false) ∨ ((l.getD k stp0).1.length ≤ 40 ∧ fewSt (l.drop (k + 1)) = b) := by
  rw [drop_cons l stp0 h] at e
  unfold fewSt at e
  rw [List.all_cons] at e
  by_cases c : (l.getD k stp0).1.length ≤ 40
  · rw [decide_eq_true c, Bool.true_and] at e; exact .inr ⟨c, e⟩
  · rw [decide_eq_false c, Bool.false_and] at e; exact .inl ⟨by omega, e.symm⟩
set_option maxHeartbeats 2000000 in
theorem Few_any (n : Value) (l : List Stp) (a : Option Addr) (cap : Nat) (w : World) (hl : l.length ≤ maxLen) (hc : CellsP w a l) :
    Calls Tryz.prog 40 #[.agg #[n, .slice a l.length cap]] w fun r w' => r = .returned (.bool (fewB l)) ∧ Ext w w' := by
  have HC := Lib.hid hc
  clear hc
  unfold maxLen at hl
  by_cases h1 : 128 < l.length
  · have HR : Hid (fewB l = false) := by show _ = _; unfold fewB; rw [decide_eq_false (by omega)]; rfl
    go_enter Tryz.func40, Tryz.ntmps40
    go_wp2
    all_goals go_ret
    all_goals exact ⟨ret_bool HR.out.symm, extA⟩
  · have HR : Hid (fewB l = fewSt l) := by show _ = _; unfold fewB; rw [decide_eq_true (by omega)]; rfl
    go_enter Tryz.func40, Tryz.ntmps40
    go_wp2
    have E1 : Ext w (w.alloc (.cells #[n, .slice a l.length cap] 71)) := extA
    have e1 : (w.alloc (.cells #[n, .slice a l.length cap] 71)).cell? ⟨w.heap.size, 1, none⟩ = some (.slice a l.length cap) := by go_simp
    generalize w.alloc (.cells #[n, .slice a l.length cap] 71) = W at E1 e1 ⊢
    go_loopw [3] (fun i wr => ∃ k : Nat, k ≤ l.length ∧ i = .int .i64 k ∧ Hid (fewSt (l.drop k) = fewSt l) ∧ Ext W wr) (fun i _ => l.length - (intOf i).toNat)
    case atStart => exact ⟨0, Nat.zero_le _, rfl, by show _ = _; rfl, Ext.refl _⟩
    case round =>
      obtain ⟨k, hk, rfl, hz, he⟩ := hrel
      have d1 := he.cell e1
      by_cases hlt : k < l.length
      · obtain ⟨b, off, v, ha, p1, hv, p2⟩ := HC.out.ext (E1.trans he) k hlt
        subst ha
        obtain ⟨sa, sc, rfl, hcs, hls⟩ := hv
        unfold maxLen at hls
        have HZ := fewSt_drop hlt hz.out
        clear hz hcs
        generalize l.getD k stp0 = y at p1 p2 hls HZ
        obtain ⟨st, wait⟩ := y
        dsimp only at p1 p2 hls HZ
        rcases HZ with ⟨g1, g2⟩ | ⟨g1, g2⟩
        · have G2 := Lib.hid g2
          clear g2
          go_wp2
          go_ret
          exact ⟨ret_bool (by rw [HR.out, G2.out]), extA⟩
        · have G2 := Lib.hid g2
          clear g2
          go_wp2
          refine ⟨⟨k + 1, by omega, by go_num, G2, extA⟩, by simp [intOf]; omega⟩
      · have hz1 := hz.out
        rw [List.drop_eq_nil_of_le (by omega)] at hz1
        have H2 := Lib.hid hz1
        clear hz1 hz
        go_wp2
        go_ret
        exact ⟨ret_bool (by rw [HR.out, ← H2.out]; rfl), extA⟩
end Go.Proofs.YtlnonmmaknhppaaGreatDoor
namespace Go.Proofs.YtlnonmmaknhppaaGreatDoor
open Go.RowKit
theorem ckSeq_zero {n : Int} {l : List Stp} (h : ckSeq (n, l) = 0) : 1 ≤ n ∧ n ≤ 6 ∧ 0 < l.length ∧ l.length ≤ 64 ∧ ckWalk n none6 l = 0 ∧ (ints n).any (behAll none6 l) = false ∧ (ints n).any (fun a => !movedIn a l) = false := by
  unfold ckSeq at h
  by_cases h1 : n < 1 ∨ 6 < n
  · rw [if_pos h1] at h; cases h
  · rw [if_neg h1] at h
    by_cases h2 : l.length = 0
    · rw [if_pos h2] at h; cases h
    · rw [if_neg h2] at h
      by_cases h3 : 64 < l.length
      · rw [if_pos h3] at h; cases h
      · rw [if_neg h3] at h
        dsimp only at h
        by_cases h4 : ckWalk n none6 l ≠ 0
        · rw [if_pos h4] at h; exact absurd h h4
        · rw [if_neg h4] at h
          cases h5 : (ints n).any (behAll none6 l)
          · rw [h5] at h
            cases h6 : (ints n).any (fun a => !movedIn a l)
            · refine ⟨by omega, by omega, by omega, by omega, by omega, rfl, rfl⟩
            · rw [h6] at h; cases h
          · rw [h5] at h; cases h
def wordL (l : List Stp) : List Stk := l.flatMap (·.1)
theorem wordL_succ {l : List Stp} {k : Nat} (h : k < l.length) : wordL (l.take (k + 1)) = wordL (l.take k) ++ (l.getD k stp0).1 := by
  unfold wordL
  rw [List.take_succ_eq_append_getElem h, List.flatMap_append, List.getD_eq_getElem?_getD, List.getElem?_eq_getElem h]
  simp
theorem wordL_len {n : Int} {l : List Stp} (h : Fine n l) : ∀ k, k ≤ l.length → (wordL (l.take k)).length ≤ 6 * k := by
  intro k
  induction k with
  | zero => intro _; simp [wordL]
  | succ k ih =>
    intro hk
    have := ih (by omega)
    have h2 := (ckStep_strokes (h k (by omega)).1).2.1
    rw [wordL_succ (by omega), List.length_append]
    omega
theorem ownsK_app {w : World} {v : Value} {l m : List Stk} (h : w.ownsRow 0 84 2 v (l.length + m.length) (flatK l ++ flatK m)) : OwnsK w v (l ++ m) := by
  unfold OwnsK
  rw [List.length_append, flatK_append]; exact h
set_option maxHeartbeats 8000000 in
set_option maxRecDepth 100000 in
theorem Word_any (n : Int) (l : List Stp) (a : Option Addr) (cap : Nat) (w : World) (hl : l.length ≤ maxLen) (hc : CellsP w a l) :
    Calls Tryz.prog 87 #[.agg #[.int .i64 n, .slice a l.length cap]] w fun e w' => ∃ v, e = .returned (.tuple #[v, .int .i64 (ckSeq (n, l))]) ∧ OwnsK w' v (if ckSeq (n, l) = 0 then wordL l else []) ∧ (∀ b, v.ownBlock = some b → w.heap.size ≤ b) ∧ Ext w w' := by
  have HC := Lib.hid hc
  have HL := Lib.hid hl
  obtain ⟨er, her⟩ : ∃ er, er = ckSeq (n, l) := ⟨_, rfl⟩
  obtain ⟨R, hR⟩ : ∃ R, R = if er = 0 then wordL l else [] := ⟨_, rfl⟩
  rw [← her, ← hR]
  have HER := Lib.hid her
  have HR := Lib.hid hR
  clear hc her hR hl
  obtain ⟨i0, hi, hi0, hi1, hi2⟩ := info_parts infoStk
  go_enter Tryz.func87, Tryz.ntmps87
  go_wp2_with fail
  have E1 : Ext w (w.alloc (.cells #[.int .i64 n, .slice a l.length cap] 71)) := extA
  have c0 : ((w.alloc (.cells #[.int .i64 n, .slice a l.length cap] 71))).cell? ⟨w.heap.size, 0, none⟩ = some (.int .i64 n) := by go_simp
  have c1 : ((w.alloc (.cells #[.int .i64 n, .slice a l.length cap] 71))).cell? ⟨w.heap.size, 1, none⟩ = some (.slice a l.length cap) := by go_simp
  generalize (w.alloc (.cells #[.int .i64 n, .slice a l.length cap] 71)) = W at E1 c0 c1 ⊢
  refine (Check_any n l a cap _ HL.out (HC.out.ext E1)).mono ?_
  rintro e w1 ⟨rfl, hE⟩
  rw [← HER.out]
  have E2 := E1.trans hE
  have c0 := (hE).cell c0
  have c1 := (hE).cell c1
  clear hE
  by_cases h0 : er = 0
  · subst h0
    have hck := HER.out.symm
    obtain ⟨hN1, hN6, hl0, hl64, hwk, _, _⟩ := ckSeq_zero hck
    have HFI := Lib.hid (ckWalk_fine hwk)
    have hR := HR.out
    rw [if_pos rfl] at hR
    have HRR : Hid (wordL (l.take l.length) = R) := by show _ = _; rw [List.take_length]; exact hR.symm
    have zw := cell_lt c0
    dsimp only at zw
    clear hck hwk HER HR hR
    go_wp2
    go_loopw [16, 5] (fun i v wr => ∃ k : Nat, k ≤ l.length ∧ i = .int .i64 k ∧ (∃ vv, v = vv ∧ Hid (OwnsK wr vv (wordL (l.take k)) ∧ ∀ b, vv.ownBlock = some b → w1.heap.size ≤ b)) ∧ Ext w1 wr) (fun i _ _ => l.length - (intOf i).toNat)
    case atStart => exact ⟨0, Nat.zero_le _, rfl, ⟨_, rfl, OwnsK.nil _, fun b hb => by cases hb⟩, Ext.refl _⟩
    case round =>
      obtain ⟨k, hk, rfl, ⟨vv, hvv, hO⟩, he⟩ := hrel
      obtain rfl := hvv.symm
      have E3 := E2.trans he
      by_cases hlt : k < l.length
      · obtain ⟨b, off, v, ha, p1, hv, p2⟩ := HC.out k hlt
        subst ha
        have HFK := HFI.out k hlt
        have hst := ckStep_strokes HFK.1
        have hst6 := hst.2.1
        have hst0 := hst.2.2.1
        have HWS := Lib.hid (wordL_succ hlt)
        have hwl := wordL_len HFI.out k (by omega)
        obtain ⟨sa, sc, rfl, hcs, hls⟩ := hv
        have p1 := E3.cell p1
        have p2 := E3.cell p2
        generalize l.getD k stp0 = x at p1 p2 hcs hls HWS hst6 hst0
        obtain ⟨st, wj⟩ := x
        dsimp only at p1 p2 hcs hls HWS hst6 hst0
        obtain ⟨kb, ko, ha, _, _⟩ := hcs 0 hst0
        subst ha
        have HCS := Lib.hid hcs
        have O2 := Lib.hid hO.out.1
        have OB := Lib.hid hO.out.2
        have hsz := he.size
        have zb := cell_lt p1
        dsimp only at zb
        clear hcs hls hO HFK hst
        generalize wordL (l.take k) = P at O2 HWS hwl
        have ES : Ext wr (wr.alloc (.cells #[.slice (some ⟨kb, ko, none⟩) st.length sc, .int .i64 wj] 128)) := extA
        have hO5 : Hid (OwnsK (wr.alloc (.cells #[.slice (some ⟨kb, ko, none⟩) st.length sc, .int .i64 wj] 128)) vv P) := O2.out.ext ES
        have hfl : Hid (∀ j u, (flatK st)[j]? = some u → (wr.alloc (.cells #[.slice (some ⟨kb, ko, none⟩) st.length sc, .int .i64 wj] 128)).cell? ((⟨kb, ko, none⟩ : Addr).add j) = some u) := fun j u hu => (HCS.out.ext (E3.trans ES)).flat j u hu
        go_wp2_with (at_builtin; refine wpList_append1 _ rfl _ _ 81 rfl 84 i0 (.agg #[.int .i64 0, .bool false]) 2 16 Tryz.underlying81 hi hi0 hi1 hi2 rfl (by decide) vv P.length (flatK P) rfl hO5.out ⟨kb, ko, none⟩ st.length sc hst0 (flatK st) rfl (flatK_length st) hfl.out (flatK_one st) ?c2 ?c3 ?c4)
        case c2 => unfold maxLen; omega
        case c3 => omega
        case c4 =>
          intro v' w5 hown5 hend5
          have O5 : Hid (OwnsK w5 v' (wordL (l.take (k + 1)))) := by show OwnsK _ _ _; rw [HWS.out]; exact ownsK_app hown5
          have B5 : Ext w1 w5 := (he.trans ES).trans' (hend5.below (n := w1.heap.size) (by simp; omega) OB.out) (Nat.le_refl _)
          have OB5 : Hid (∀ b, v'.ownBlock = some b → w1.heap.size ≤ b) := hend5.ge (n := w1.heap.size) (by simp; omega) OB.out
          clear hown5 hend5 O2 OB HWS hO5 hfl
          go_wp2
          refine ⟨⟨k + 1, by omega, by go_num, ⟨v', rfl, O5.out, OB5.out⟩, B5⟩, by simp [intOf]; omega⟩
      · have hke : k = l.length := by omega
        subst hke
        have hO1 := hO.out.1
        rw [HRR.out] at hO1
        have HO1 := Lib.hid hO1
        have HO2 := Lib.hid hO.out.2
        have hsz := E2.size
        clear hO hO1
        go_wp2
        go_ret2
        exact ⟨_, rfl, HO1.out, fun b hb => by have := HO2.out b hb; omega, E3⟩
  · have hn : (er != 0) = true := by simp [h0]
    have hR := HR.out
    rw [if_neg h0] at hR
    subst hR
    clear h0 HER HR
    go_wp2
    go_ret2
    exact ⟨.slice none 0 0, rfl, OwnsK.nil _, (fun b hb => by cases hb), E2⟩
set_option maxHeartbeats 8000000 in
set_option maxRecDepth 100000 in
theorem First_any (n : Int) (l : List Stp) (a : Option Addr) (cap : Nat) (w : World) (hl64 : l.length ≤ 64) (hf : Fine n l) (hc : CellsP w a l) :
    Calls Tryz.prog 47 #[.agg #[.int .i64 n, .slice a l.length cap]] w fun e w' => ∃ v, e = .returned v ∧ OwnsK w' v (wordL l) ∧ (∀ b, v.ownBlock = some b → w.heap.size ≤ b) ∧ Ext w w' := by
  have HC := Lib.hid hc
  have HFI := Lib.hid hf
  have HRR : Hid (wordL (l.take l.length) = wordL l) := by show _ = _; rw [List.take_length]
  obtain ⟨R, hR⟩ : ∃ R, R = wordL l := ⟨_, rfl⟩
  rw [← hR] at HRR ⊢
  clear hc hf hR
  obtain ⟨i0, hi, hi0, hi1, hi2⟩ := info_parts infoStk
  go_enter Tryz.func47, Tryz.ntmps47
  go_wp2_with fail
  have E1 : Ext w (w.alloc (.cells #[.int .i64 n, .slice a l.length cap] 71)) := extA
  have c1 : ((w.alloc (.cells #[.int .i64 n, .slice a l.length cap] 71))).cell? ⟨w.heap.size, 1, none⟩ = some (.slice a l.length cap) := by go_simp
  generalize (w.alloc (.cells #[.int .i64 n, .slice a l.length cap] 71)) = w1 at E1 c1 ⊢
  have E2 := E1
  go_loopw [4, 3] (fun i v wr => ∃ k : Nat, k ≤ l.length ∧ i = .int .i64 k ∧ (∃ vv, v = vv ∧ Hid (OwnsK wr vv (wordL (l.take k)) ∧ ∀ b, vv.ownBlock = some b → w1.heap.size ≤ b)) ∧ Ext w1 wr) (fun i _ _ => l.length - (intOf i).toNat)
  case atStart => exact ⟨0, Nat.zero_le _, rfl, ⟨_, rfl, OwnsK.nil _, fun b hb => by cases hb⟩, Ext.refl _⟩
  case round =>
    obtain ⟨k, hk, rfl, ⟨vv, hvv, hO⟩, he⟩ := hrel
    obtain rfl := hvv.symm
    have E3 := E2.trans he
    have c1 := he.cell c1
    have z1 := cell_lt c1
    dsimp only at z1
    by_cases hlt : k < l.length
    · obtain ⟨b, off, v, ha, p1, hv, p2⟩ := HC.out k hlt
      subst ha
      have HFK := HFI.out k hlt
      have hst := ckStep_strokes HFK.1
      have hst6 := hst.2.1
      have hst0 := hst.2.2.1
      have HWS := Lib.hid (wordL_succ hlt)
      have hwl := wordL_len HFI.out k (by omega)
      obtain ⟨sa, sc, rfl, hcs, hls⟩ := hv
      have p1 := E3.cell p1
      have p2 := E3.cell p2
      generalize l.getD k stp0 = x at p1 p2 hcs hls HWS hst6 hst0
      obtain ⟨st, wj⟩ := x
      dsimp only at p1 p2 hcs hls HWS hst6 hst0
      obtain ⟨kb, ko, ha, _, _⟩ := hcs 0 hst0
      subst ha
      have HCS := Lib.hid hcs
      have O2 := Lib.hid hO.out.1
      have OB := Lib.hid hO.out.2
      have hsz := he.size
      have zb := cell_lt p1
      dsimp only at zb
      clear hcs hls hO HFK hst
      generalize wordL (l.take k) = P at O2 HWS hwl
      have hO5 : Hid (OwnsK wr vv P) := O2.out
      have hfl : Hid (∀ j u, (flatK st)[j]? = some u → wr.cell? ((⟨kb, ko, none⟩ : Addr).add j) = some u) := fun j u hu => (HCS.out.ext E3).flat j u hu
      go_wp2_with (at_builtin; refine wpList_append1 _ rfl _ _ 81 rfl 84 i0 (.agg #[.int .i64 0, .bool false]) 2 16 Tryz.underlying81 hi hi0 hi1 hi2 rfl (by decide) vv P.length (flatK P) rfl hO5.out ⟨kb, ko, none⟩ st.length sc hst0 (flatK st) rfl (flatK_length st) hfl.out (flatK_one st) ?c2 ?c3 ?c4)
      case c2 => unfold maxLen; omega
      case c3 => omega
      case c4 =>
        intro v' w5 hown5 hend5
        have O5 : Hid (OwnsK w5 v' (wordL (l.take (k + 1)))) := by show OwnsK _ _ _; rw [HWS.out]; exact ownsK_app hown5
        have B5 : Ext w1 w5 := he.trans' (hend5.below (n := w1.heap.size) (by omega) OB.out) (Nat.le_refl _)
        have OB5 : Hid (∀ b, v'.ownBlock = some b → w1.heap.size ≤ b) := hend5.ge (n := w1.heap.size) (by omega) OB.out
        clear hown5 hend5 O2 OB HWS hO5 hfl
        go_wp2
        refine ⟨⟨k + 1, by omega, by go_num, ⟨v', rfl, O5.out, OB5.out⟩, B5⟩, by simp [intOf]; omega⟩
    · have hke : k = l.length := by omega
      subst hke
      have hO1 := hO.out.1
      rw [HRR.out] at hO1
      have HO1 := Lib.hid hO1
      have HO2 := Lib.hid hO.out.2
      have hsz := E1.size
      clear hO hO1
      go_wp2
      go_ret
      exact ⟨_, rfl, HO1.out, fun b hb => by have := HO2.out b hb; omega, E3⟩
end Go.Proofs.YtlnonmmaknhppaaGreatDoor
namespace Go.Proofs.YtlnonmmaknhppaaGreatDoor
open Go.RowKit
def cylsE : List Cyl → Nat
  | [] => 0
  | c :: l => if cylE c ≠ 0 then cylE c else cylsE l
def strN (l : List Cyl) (p : Int) : List Stk → Int
  | [] => 0
  | x :: r => litN (l.getD x.1.toNat cyl0) x.2 p + strN l p r
def cycS (l : List Cyl) (n : Int) (st : List Stp) (p : Int) : Enc × Int :=
  if ckSeq (n, st) ≠ 0 then (([], []), ckSeq (n, st)) else if (l.length : Int) ≠ n then (([], []), 8) else if cylsE l ≠ 0 then (([], []), (cylsE l : Nat)) else if presE1 p ≠ 0 then (([], []), (presE1 p : Nat)) else (sumT (strN l p (wordL st)), 0)
def CycP (r : Enc × Int) (w : World) (e : Ending) (w' : World) : Prop := e = .returned (.tuple #[encV r.1, .int .i64 r.2]) ∧ Ext w w'
theorem cylsE_drop {l : List Cyl} {k : Nat} (h : k < l.length) : cylsE (l.drop k) = if cylE (l.getD k cyl0) ≠ 0 then cylE (l.getD k cyl0) else cylsE (l.drop (k + 1)) := by
  conv => lhs; rw [drop_consA l cyl0 h]
  rfl
theorem cylsE_zero {l : List Cyl} (h : cylsE l = 0) : ∀ c ∈ l, CylOk c := by
  induction l with
  | nil => intro c hc; cases hc
  | cons d l ih =>
    unfold cylsE at h
    split at h
    · rename_i h1; exact absurd h h1
    · rename_i h1
      intro c hc
      rcases List.mem_cons.1 hc with rfl | hc
      · exact cylOk_of (by omega)
      · exact ih h c hc
theorem strN_append (l : List Cyl) (p : Int) (a b : List Stk) : strN l p (a ++ b) = strN l p a + strN l p b := by
  induction a with
  | nil => simp [strN]
  | cons x a ih => simp only [List.cons_append, strN, ih]; omega
theorem strN_take (l : List Cyl) (p : Int) {w : List Stk} {k : Nat} (h : k < w.length) : strN l p (w.take (k + 1)) = strN l p (w.take k) + litN (l.getD (w.getD k stk0).1.toNat cyl0) (w.getD k stk0).2 p := by
  rw [take_snoc stk0 h, strN_append]
  simp [strN]
theorem strN_bd {l : List Cyl} {p : Int} (hc : ∀ c ∈ l, CylOk c) (h1 : 1 ≤ p) (h2 : p ≤ 2000) : ∀ w : List Stk, (∀ x ∈ w, x.1.toNat < l.length) → 0 ≤ strN l p w ∧ strN l p w ≤ w.length * 1575750000000 := by
  intro w
  induction w with
  | nil => intro _; simp [strN]
  | cons x w ih =>
    intro h
    obtain ⟨g1, g2⟩ := ih fun y hy => h y (List.mem_cons_of_mem _ hy)
    have hx := h x (by simp)
    obtain ⟨b1, b2⟩ := litN_bd (hc (l.getD x.1.toNat cyl0) (getD_inA hx)) x.2 h1 h2
    unfold strN
    rw [List.length_cons]
    push_cast
    omega
theorem word_in {n : Int} {st : List Stp} (h : Fine n st) : ∀ x ∈ wordL st, 0 ≤ x.1 ∧ x.1 < n := by
  intro x hx
  unfold wordL at hx
  obtain ⟨s, hs, hxs⟩ := List.mem_flatMap.1 hx
  obtain ⟨k, hk, rfl⟩ := List.mem_iff_getElem.1 hs
  have h1 := (h k hk).2
  obtain ⟨j, hj, rfl⟩ := List.mem_iff_getElem.1 hxs
  have e : st.getD k stp0 = st[k] := by rw [List.getD_eq_getElem?_getD, List.getElem?_eq_getElem hk]; rfl
  rw [e] at h1
  have h2 := h1 j hj
  rw [List.getD_eq_getElem?_getD, List.getElem?_eq_getElem hj] at h2
  exact h2
theorem word_len {n : Int} {st : List Stp} (h : Fine n st) (hl : st.length ≤ 64) : (wordL st).length ≤ 384 := by
  have := wordL_len h st.length (Nat.le_refl _)
  rw [List.take_length] at this
  omega
structure CycOk (l : List Cyl) (n : Int) (st : List Stp) (p : Int) : Prop where
  len : (l.length : Int) = n
  n1 : 1 ≤ n
  n6 : n ≤ 6
  s64 : st.length ≤ 64
  fine : Fine n st
  cyl : ∀ c ∈ l, CylOk c
  p1 : 1 ≤ p
  p2 : p ≤ 2000
theorem CycOk.at {l : List Cyl} {n : Int} {st : List Stp} {p : Int} (h : CycOk l n st p) {k : Nat} (hk : k < (wordL st).length) :
    ∃ i : Nat, ((wordL st).getD k stk0).1 = (i : Int) ∧ i < l.length ∧ CylOk (l.getD i cyl0) ∧ (∀ o, 0 ≤ litN (l.getD i cyl0) o p ∧ litN (l.getD i cyl0) o p ≤ 1575750000000) := by
  have h1 := word_in h.fine _ (getD_inA (d := stk0) hk)
  have h2 := h.len
  have hi : ((wordL st).getD k stk0).1.toNat < l.length := by omega
  have hc := h.cyl _ (getD_inA (d := cyl0) hi)
  exact ⟨_, (Int.toNat_of_nonneg h1.1).symm, hi, hc, fun o => litN_bd hc o h.p1 h.p2⟩
theorem CycOk.bd {l : List Cyl} {n : Int} {st : List Stp} {p : Int} (h : CycOk l n st p) (k : Nat) : 0 ≤ strN l p ((wordL st).take k) ∧ strN l p ((wordL st).take k) ≤ 384 * 1575750000000 := by
  obtain ⟨g1, g2⟩ := strN_bd h.cyl h.p1 h.p2 ((wordL st).take k) (fun x hx => by
    have h1 := word_in h.fine x (List.mem_of_mem_take hx)
    have h2 := h.len
    omega)
  have h3 := word_len h.fine h.s64
  have h4 : ((wordL st).take k).length ≤ 384 := by rw [List.length_take]; omega
  refine ⟨g1, ?_⟩
  have : (((wordL st).take k).length : Int) * 1575750000000 ≤ 384 * 1575750000000 := Int.mul_le_mul_of_nonneg_right (by omega) (by omega)
  omega
end Go.Proofs.YtlnonmmaknhppaaGreatDoor
namespace Go.Proofs.YtlnonmmaknhppaaGreatDoor
open Go.RowKit
set_option maxHeartbeats 16000000 in
set_option maxRecDepth 100000 in
theorem aCycle_any (l : List Cyl) (n : Int) (st : List Stp) (p : Int) (ca : Option Addr) (cc : Nat) (a : Option Addr) (cap : Nat) (w : World) (hG : Glob w) (hl : l.length ≤ 9223372036854775807) (hc : CellsC w ca l) (hs : CellsP w a st) (hsl : st.length ≤ maxLen) :
    Calls Tryz.prog 41 #[.slice ca l.length cc, .agg #[.int .i64 n, .slice a st.length cap], .int .i64 p] w (CycP (cycS l n st p) w) := by
  have HG := Lib.hid hG
  have HC := Lib.hid hc
  have HWD := Lib.hid (fun W (g : Ext w W) => Word_any n st a cap W hsl (hs.ext g))
  have HCK := Lib.hid (fun c W => aCheck_any c W)
  have HPR := Lib.hid (fun W => aPress_any p W)
  have HPT : Hid (∀ W, Ext w W → Calls Tryz.prog 88 #[txt [48]] W (EncP (([48], [48]), 0) W)) := fun W g => by
    have h := ePoint_any [48] W (HG.out.ext g) (by decide)
    rwa [show pointE [48] = (([48], [48]), 0) by decide +kernel] at h
  have HLI := fun c o (W : World) (g : Ext w W) (hk : CylOk c) h1 h2 => aLitres_any c o p W (HG.out.ext g) hk h1 h2
  simp only [litT_is] at HLI
  replace HLI := Lib.hid HLI
  have HAD := Lib.hid (fun (M N : Int) (W : World) (g : Ext w W) (hM : 0 ≤ M) (hN : 0 ≤ N) (h : M + N ≤ 10 ^ 20) => by
    have hh := sum_add hM hN h
    have h1 := eAdd_any (sumT M) (sumT N) W (HG.out.ext g) hh.2.1 hh.2.2.1
    rw [hh.1] at h1
    exact h1)
  obtain ⟨R, hR⟩ : ∃ R, R = cycS l n st p := ⟨_, rfl⟩
  rw [← hR]
  unfold cycS at hR
  obtain ⟨er, her⟩ : ∃ er, er = ckSeq (n, st) := ⟨_, rfl⟩
  rw [← her] at HWD hR
  have HER := Lib.hid her
  obtain ⟨wd, hwd⟩ : ∃ wd, wd = wordL st := ⟨_, rfl⟩
  rw [← hwd] at HWD hR
  have HWE := Lib.hid hwd
  clear hwd
  unfold CycP
  clear hG hc hs her
  have c0 : (((w.alloc (.cells #[.int .i64 n, .slice a st.length cap] 71)).alloc (.cells #[.string ⟨#[]⟩, .string ⟨#[]⟩] 35))).cell? ⟨w.heap.size, 0, none⟩ = some (.int .i64 n) := by go_simp
  have c1 : (((w.alloc (.cells #[.int .i64 n, .slice a st.length cap] 71)).alloc (.cells #[.string ⟨#[]⟩, .string ⟨#[]⟩] 35))).cell? ⟨w.heap.size, 1, none⟩ = some (.slice a st.length cap) := by go_simp
  have X : EncAt (w.heap.size + 1) ((w.alloc (.cells #[.int .i64 n, .slice a st.length cap] 71)).alloc (.cells #[.string ⟨#[]⟩, .string ⟨#[]⟩] 35)) [] [] := ⟨by go_simp, by go_simp, by go_simp, by go_simp⟩
  have E : Ext w ((w.alloc (.cells #[.int .i64 n, .slice a st.length cap] 71)).alloc (.cells #[.string ⟨#[]⟩, .string ⟨#[]⟩] 35)) := extA
  go_enter Tryz.func41, Tryz.ntmps41
  go_wp2_with fail
  generalize ((w.alloc (.cells #[.int .i64 n, .slice a st.length cap] 71)).alloc (.cells #[.string ⟨#[]⟩, .string ⟨#[]⟩] 35)) = w0 at c0 c1 X E ⊢
  refine (HWD.out _ E).mono ?_
  rintro e w1 ⟨v, rfl, hO, _, hE⟩
  replace X := X.ext hE
  replace E := E.trans hE
  have c0 := (hE).cell c0
  have c1 := (hE).cell c1
  clear hE HWD
  by_cases h0 : er = 0
  rotate_left
  · rw [if_pos h0] at hR
    have HR := Lib.hid hR
    have hne : (er != 0) = true := by simp [h0]
    obtain ⟨d0, d1, g0, g1⟩ := X
    have zd := cell_lt d0
    dsimp only at zd
    clear hR h0 HER hO
    go_wp2
    refine bodyPost_ret (v := .tuple #[.agg #[txt [], txt []], .int .i64 er]) (by rw [results_cell_tmp1 rfl]; go_simp) rfl ?_
    exact ⟨by rw [HR.out], extA⟩
  subst h0
  rw [if_pos rfl] at hO
  rw [if_neg (not_not_intro rfl)] at hR
  obtain ⟨wa, wc, rfl, hcw, hlw, _⟩ := hO.reads
  have HCW := Lib.hid hcw
  clear hcw hO
  have z0 := cell_lt c0
  have zd := cell_lt X.c0
  dsimp only at z0 zd
  by_cases hn : (l.length : Int) = n
  rotate_left
  · rw [if_pos hn] at hR
    have HR := Lib.hid hR
    have hne : ((l.length : Int) != n) = true := by simp [hn]
    obtain ⟨d0, d1, g0, g1⟩ := X
    clear hR hn HER
    go_wp2
    refine bodyPost_ret (v := .tuple #[.agg #[txt [], txt []], .int .i64 8]) (by rw [results_cell_tmp1 rfl]; go_simp) rfl ?_
    exact ⟨by rw [HR.out], extA⟩
  rw [if_neg (not_not_intro hn)] at hR
  have hne : ((l.length : Int) != n) = false := by simp [hn]
  have HN := Lib.hid hn
  have HRR := Lib.hid hR
  obtain ⟨ce, hce⟩ : ∃ ce, ce = cylsE l := ⟨_, rfl⟩
  rw [← hce] at hR
  have M0 : Hid (ce = cylsE (l.drop 0)) := hce
  have HCE := Lib.hid hce
  have HR := Lib.hid hR
  clear hR hn hce HRR
  go_wp2
  clear hne z0 zd
  go_loopw [35] (fun x wr => ∃ k : Nat, k ≤ l.length ∧ x = .int .i64 k ∧ Hid (ce = cylsE (l.drop k)) ∧ Ext w1 wr) (fun x _ => l.length - (intOf x).toNat)
  case atStart => exact ⟨0, Nat.zero_le _, rfl, M0.out, Ext.refl _⟩
  case round =>
    obtain ⟨k, hk, rfl, hz, he⟩ := hrel
    have X2 := X.ext he
    have E2 := E.trans he
    by_cases hlt : k < l.length
    · obtain ⟨b, off, ha, p0, p1, p2⟩ := HC.out.ext E2 k hlt
      subst ha
      have hz2 := hz.out.trans (cylsE_drop hlt)
      have HCc := Lib.hid (HCK.out (l.getD k cyl0))
      obtain ⟨qe, hqe⟩ : ∃ qe, qe = cylE (l.getD k cyl0) := ⟨_, rfl⟩
      rw [← hqe] at hz2 HCc
      clear hqe hz
      generalize l.getD k cyl0 = c at p0 p1 p2 HCc
      obtain ⟨x, y, z⟩ := c
      dsimp only [cylV] at p0 p1 p2 HCc
      have z0 := cell_lt p0
      dsimp only at z0
      by_cases hq : qe = 0
      · rw [if_neg (not_not_intro hq)] at hz2
        have HZ := Lib.hid hz2
        subst hq
        clear hz2
        go_wp2_with fail
        have EB : Ext wr (wr.alloc (.cells #[.int .i64 x, .int .i64 y, .int .i64 z] 49)) := extA
        refine (HCc.out _).mono ?_
        rintro e w5 ⟨rfl, hE⟩
        have E5 := he.trans (EB.trans hE)
        clear EB hE
        go_wp2
        refine ⟨⟨k + 1, by omega, by go_num, HZ.out, E5⟩, by simp [intOf]; omega⟩
      · rw [if_pos hq] at hz2
        have h1 := HR.out
        rw [if_pos (by omega)] at h1
        have HRQ : Hid (R = (([], []), (qe : Int))) := by show _ = _; rw [h1, hz2]
        have hne : (((qe : Nat) : Int) != 0) = true := by rw [bne_iff_ne]; omega
        clear hz2 h1 hq
        go_wp2_with fail
        have EB : Ext wr (wr.alloc (.cells #[.int .i64 x, .int .i64 y, .int .i64 z] 49)) := extA
        refine (HCc.out _).mono ?_
        rintro e w5 ⟨rfl, hE⟩
        have E5 := E2.trans (EB.trans hE)
        obtain ⟨d0, d1, g0, g1⟩ := X2.ext (EB.trans hE)
        have zd := cell_lt d0
        dsimp only at zd
        clear EB hE
        go_wp2
        refine bodyPost_ret (v := .tuple #[.agg #[txt [], txt []], .int .i64 (qe : Nat)]) (by rw [results_cell_tmp1 rfl]; go_simp) rfl ?_
        exact ⟨by rw [HRQ.out], extA⟩
    · have hke : k = l.length := by omega
      subst hke
      have hz2 := hz.out
      rw [List.drop_length] at hz2
      have hce0 : ce = 0 := hz2
      have h1 := HR.out
      rw [if_neg (by omega)] at h1
      obtain ⟨pe, hpe⟩ : ∃ pe, pe = presE1 p := ⟨_, rfl⟩
      rw [← hpe] at HPR h1
      have HPE := Lib.hid hpe
      clear hz hz2 hpe
      go_wp2_with fail
      refine (HPR.out _).mono ?_
      rintro e w5 ⟨rfl, hw⟩; obtain rfl := hw.symm; clear hw
      by_cases hp : pe = 0
      rotate_left
      · rw [if_pos hp] at h1
        have HRQ := Lib.hid h1
        have hne : (((pe : Nat) : Int) != 0) = true := by rw [bne_iff_ne]; omega
        obtain ⟨d0, d1, g0, g1⟩ := X2
        have zd := cell_lt d0
        dsimp only at zd
        clear h1 hp
        go_wp2
        refine bodyPost_ret (v := .tuple #[.agg #[txt [], txt []], .int .i64 (pe : Nat)]) (by rw [results_cell_tmp1 rfl]; go_simp) rfl ?_
        exact ⟨by rw [HRQ.out], extA⟩
      rw [if_neg (not_not_intro hp)] at h1
      have HRQ := Lib.hid h1
      subst hp
      have hck := HER.out.symm
      obtain ⟨hN1, hN6, _, hl64, hwk, _, _⟩ := ckSeq_zero hck
      have hpr : 1 ≤ p ∧ p ≤ 2000 := by
        have h2 := HPE.out
        unfold presE1 presB at h2
        split at h2
        · cases h2
        · rename_i h3
          simp only [Bool.or_eq_true, decide_eq_true_eq, not_or] at h3
          omega
      have HOK : Hid (CycOk l n st p) := ⟨HN.out, hN1, hN6, hl64, ckWalk_fine hwk, cylsE_zero (HCE.out.symm.trans hce0), hpr.1, hpr.2⟩
      have hwd := HWE.out
      have hwl := word_len HOK.out.fine hl64
      rw [← hwd] at hwl
      have HAT : Hid (∀ k, k < wd.length → ∃ i : Nat, (wd.getD k stk0).1 = (i : Int) ∧ i < l.length ∧ CylOk (l.getD i cyl0) ∧ (∀ o, 0 ≤ litN (l.getD i cyl0) o p ∧ litN (l.getD i cyl0) o p ≤ 1575750000000)) := fun k hk => by
        have := HOK.out.at (k := k) (by rw [← hwd]; exact hk)
        rw [← hwd] at this
        exact this
      have HBD : Hid (∀ k, 0 ≤ strN l p (wd.take k) ∧ strN l p (wd.take k) ≤ 384 * 1575750000000) := fun k => by
        have := HOK.out.bd k
        rw [← hwd] at this
        exact this
      have HTK : Hid (∀ k, k < wd.length → strN l p (wd.take (k + 1)) = strN l p (wd.take k) + litN (l.getD (wd.getD k stk0).1.toNat cyl0) (wd.getD k stk0).2 p) := fun k hk => strN_take l p hk
      have HS0 : Hid (sumT (strN l p (wd.take 0)) = ([48], [48])) := by show _ = _; rw [List.take_zero]; exact sum_zero
      have HEND : Hid (strN l p (wd.take wd.length) = strN l p wd) := by show _ = _; rw [List.take_length]
      have HLI2 := Lib.hid (fun c o W g hk => HLI.out c o W g hk hpr.1 hpr.2)
      clear h1 hwk hck hwd HWE HOK hpr HLI hce0 hN1 hN6 hl64 HR HCE HN HER M0
      have zd := cell_lt X2.c0
      dsimp only at zd
      go_wp2_with fail
      refine (HPT.out _ E2).mono ?_
      rintro e w4 ⟨rfl, hE4⟩
      have X4 := X2.ext hE4
      have E4 := E2.trans hE4
      have HC4 := Lib.hid (HC.out.ext E4)
      have HCW4 := Lib.hid (HCW.out.ext (he.trans hE4))
      clear X2 E2 hE4 HC HCW
      have EB : Ext w4 (w4.alloc (.cells #[txt [48], txt [48]] 35)) := extA
      have S0 : EncAt w4.heap.size (w4.alloc (.cells #[txt [48], txt [48]] 35)) [48] [48] := ⟨by go_simp, by go_simp, by go_simp, by go_simp⟩
      go_wp2_with fail
      obtain ⟨sb, hsb⟩ : ∃ b, b = w4.heap.size := ⟨_, rfl⟩
      rw [← hsb] at S0 ⊢
      have hsb4 : w4.heap.size ≤ sb := by omega
      have hsb5 : sb < (w4.alloc (.cells #[txt [48], txt [48]] 35)).heap.size := cell_lt S0.c0
      clear hsb
      generalize (w4.alloc (.cells #[txt [48], txt [48]] 35)) = w6 at EB S0 hsb5 ⊢
      go_loopw [58, 9] (fun x y wr => ∃ k : Nat, k ≤ wd.length ∧ x = .int .i64 k ∧ y = .int .i64 0 ∧ (∃ s1 s2, EncAt sb wr s1 s2 ∧ Hid ((s1, s2) = sumT (strN l p (wd.take k)))) ∧ Ext w4 wr) (fun x _ _ => wd.length - (intOf x).toNat)
      case atStart => exact ⟨0, Nat.zero_le _, rfl, rfl, ⟨_, _, S0, HS0.out.symm⟩, EB⟩
      case round =>
        obtain ⟨k, hk, rfl, rfl, ⟨s1, s2, S, hS12⟩, he4⟩ := hrel
        have X5 := X4.ext he4
        have E5 := E4.trans he4
        by_cases hlt : k < wd.length
        · obtain ⟨wb, wo, hwa, q1, q2⟩ := HCW4.out.ext he4 k hlt
          subst hwa
          obtain ⟨i, hi1, hi2, hi3, hi4⟩ := HAT.out k hlt
          have htk := HTK.out k hlt
          rw [hi1, Int.toNat_natCast] at htk
          obtain ⟨cb, co, hca, r0, r1, r2⟩ := HC4.out.ext he4 i hi2
          subst hca
          rw [hi1] at q1
          have hbd := HBD.out k
          have hbd1 := HBD.out (k + 1)
          have HL := HLI2.out (l.getD i cyl0) (wd.getD k stk0).2
          have hn4 := hi4 (wd.getD k stk0).2
          have HA2 := fun W g => HAD.out (strN l p (wd.take k)) (litN (l.getD i cyl0) (wd.getD k stk0).2 p) W g hbd.1 hn4.1 (by omega)
          rw [← htk, ← hS12.out] at HA2
          generalize (wd.getD k stk0).2 = o at q2 HL HA2
          obtain ⟨N, hN⟩ : ∃ N, N = sumT (litN (l.getD i cyl0) o p) := ⟨_, rfl⟩
          rw [← hN] at HL HA2
          obtain ⟨T, hT⟩ : ∃ T, T = sumT (strN l p (wd.take (k + 1))) := ⟨_, rfl⟩
          rw [← hT] at HA2
          have HT := Lib.hid hT
          unfold EncP at HL HA2
          have HL' := fun W g => HL W g hi3
          generalize l.getD i cyl0 = c at r0 r1 r2 HL'
          obtain ⟨cx, cy, cz⟩ := c
          obtain ⟨n1, n2⟩ := N
          obtain ⟨t1, t2⟩ := T
          dsimp only [encV, cylV] at HL' HA2 r0 r1 r2
          replace HL := Lib.hid HL'
          replace HA2 := Lib.hid HA2
          clear HL' hN hT hi1 hi3 hi4 htk hbd hbd1 hn4 hS12
          have z1 := cell_lt q1
          have zs := cell_lt S.c0
          dsimp only at z1 zs
          have hiI : (i : Int) < (l.length : Int) := by omega
          go_wp2_with fail
          have d0 : (((wr.alloc (.cells #[.int .i64 i, .bool o] 84)).alloc (.cells #[.string ⟨#[]⟩, .string ⟨#[]⟩] 35))).cell? ⟨wr.heap.size, 0, none⟩ = some (.int .i64 i) := by go_simp
          have d1 : (((wr.alloc (.cells #[.int .i64 i, .bool o] 84)).alloc (.cells #[.string ⟨#[]⟩, .string ⟨#[]⟩] 35))).cell? ⟨wr.heap.size, 1, none⟩ = some (.bool o) := by go_simp
          have Y : EncAt (wr.heap.size + 1) ((wr.alloc (.cells #[.int .i64 i, .bool o] 84)).alloc (.cells #[.string ⟨#[]⟩, .string ⟨#[]⟩] 35)) [] [] := ⟨by go_simp, by go_simp, by go_simp, by go_simp⟩
          have EWB : Ext wr ((wr.alloc (.cells #[.int .i64 i, .bool o] 84)).alloc (.cells #[.string ⟨#[]⟩, .string ⟨#[]⟩] 35)) := extA
          have hyb : w4.heap.size ≤ wr.heap.size + 1 := by have := he4.size; omega
          have hys : sb ≠ wr.heap.size + 1 := by omega
          have r0 := EWB.cell r0
          have r1 := EWB.cell r1
          have r2 := EWB.cell r2
          obtain ⟨kb, hkb⟩ : ∃ b, b = wr.heap.size := ⟨_, rfl⟩
          rw [← hkb] at d0 d1 Y hyb hys ⊢
          clear q1 q2 z1 zs hkb
          have hS : Ext ((wr.alloc (.cells #[.int .i64 i, .bool o] 84)).alloc (.cells #[.string ⟨#[]⟩, .string ⟨#[]⟩] 35)) (((wr.alloc (.cells #[.int .i64 i, .bool o] 84)).alloc (.cells #[.string ⟨#[]⟩, .string ⟨#[]⟩] 35))).drew := extA
          generalize ((wr.alloc (.cells #[.int .i64 i, .bool o] 84)).alloc (.cells #[.string ⟨#[]⟩, .string ⟨#[]⟩] 35)) = W6 at d0 d1 Y EWB r0 r1 r2 hS ⊢
          refine wp_region_heldE 12 (Ext W6) (by kernel_rfl) ?_
          generalize W6.drew = v0 at hS ⊢
          ((refine ePu 0 ?_); (refine ePu 1 ?_))
          (refine wpAnyE_take (oi := ?_) (v := ?_) (i := 2) ?_ (by kernel_rfl) ?_ ?_ (by assumption) ?_; rotate_left 2; (focus ((simp only [List.getElem?_toArray, List.getElem?_cons_succ, List.getElem?_cons_zero]; exact rfl))); (focus (exact fun _ _ _ h => h)); (focus (refine Or.inl ⟨by rfl, ?_⟩; intro w hSw; have hd0 := hSw.cell d0; have zd0 := cell_lt hd0; dsimp only at zd0; (first | (go_simp; done) | (go_simp; with_reducible rfl)))); (try simp only [Act.put, List.setIfInBounds_toArray, List.set_cons_zero, List.set_cons_succ]))
          (refine ePu 3 ?_)
          (refine wpAnyE_take (oi := ?_) (v := ?_) (i := 4) ?_ (by kernel_rfl) ?_ ?_ (by assumption) ?_; rotate_left 2; (focus ((simp only [List.getElem?_toArray, List.getElem?_cons_succ, List.getElem?_cons_zero]; exact rfl))); (focus (exact fun _ _ _ h => h)); (focus (refine Or.inl ⟨by rfl, ?_⟩; intro w hSw; have hr0 := hSw.cell r0; have zr0 := cell_lt hr0; dsimp only at zr0; have hr1 := hSw.cell r1; have zr1 := cell_lt hr1; dsimp only at zr1; have hr2 := hSw.cell r2; have zr2 := cell_lt hr2; dsimp only at zr2; (first | (go_simp; done) | (go_simp; with_reducible rfl)))); (try simp only [Act.put, List.setIfInBounds_toArray, List.set_cons_zero, List.set_cons_succ]))
          (refine ePu 5 ?_)
          (refine wpAnyE_take (oi := ?_) (v := ?_) (i := 6) ?_ (by kernel_rfl) ?_ ?_ (by assumption) ?_; rotate_left 2; (focus ((simp only [List.getElem?_toArray, List.getElem?_cons_succ, List.getElem?_cons_zero]; exact rfl))); (focus (exact fun _ _ _ h => h)); (focus (refine Or.inl ⟨by rfl, ?_⟩; intro w hSw; have hd1 := hSw.cell d1; have zd1 := cell_lt hd1; dsimp only at zd1; (first | (go_simp; done) | (go_simp; with_reducible rfl)))); (try simp only [Act.put, List.setIfInBounds_toArray, List.set_cons_zero, List.set_cons_succ]))
          (refine ePu 7 ?_)
          (refine wpAnyE_one (i := 8) (o := ?_) ?_ (by kernel_rfl) (fun K hK => ?_); rotate_left; (focus ((simp only [List.getElem?_toArray, List.getElem?_cons_succ, List.getElem?_cons_zero]; exact rfl))); go_simp; refine (HL.out _ (E5.trans (EWB.trans hS))).mono ?_; rintro e v9 ⟨rfl, hE⟩; go_wp2_with fail; refine hK.out _ _ (hS.trans hE) (fun hHeld => ?_); clear hK K hHeld; (try simp only [Act.put, List.setIfInBounds_toArray, List.set_cons_zero, List.set_cons_succ]); replace hS := hS.trans hE; clear hE)
          ((refine ePu 9 ?_); (refine ePu 10 ?_); (refine ePu 11 ?_))
          have Y7 := ((Y.ext hS).set0 n1).set1 n2
          have S7 := (S.ext (EWB.trans hS)).two (c := kb + 1) (o1 := 0) (v := txt n1) (o2 := 1) (u := txt n2) hys
          have E47 := ((he4.trans (EWB.trans hS)).set (b := kb + 1) (o := 0) hyb (txt n1)).set (b := kb + 1) (o := 1) hyb (txt n2)
          obtain ⟨y0, y1, fy0, fy1⟩ := Y.ext hS
          have zy := cell_lt y0
          dsimp only at zy
          (refine wpAnyE_free (i := 12) (o := ?_) ?_ (by kernel_rfl) (by kernel_rfl) (fun K hK => ?_); rotate_left; (focus ((simp only [List.getElem?_toArray, List.getElem?_cons_succ, List.getElem?_cons_zero]; exact rfl))); go_simp; refine hK.out _ _ ?_; clear hK K; (try simp only [Act.put, List.setIfInBounds_toArray, List.set_cons_zero, List.set_cons_succ]))
          (refine ePu 13 ?_)
          refine wpAnyE_done (by kernel_rfl) ?_ _
          clear y0 y1 fy0 fy1 zy
          generalize ((v9.setCell ⟨kb + 1, 0, none⟩ (txt n1)).setCell ⟨kb + 1, 1, none⟩ (txt n2)) = W7 at Y7 S7 E47 ⊢
          have S7' := S7
          obtain ⟨e0, e1, _, _⟩ := S7'
          obtain ⟨y0, y1, _, _⟩ := Y7
          have ze := cell_lt e0
          have zy := cell_lt y0
          dsimp only at ze zy
          go_wp2_with fail
          refine (HA2.out _ (E4.trans E47)).mono ?_
          rintro e w8 ⟨rfl, hE8⟩
          have S8 := ((S7.ext hE8).set0 t1).set1 t2
          have E48 := ((E47.trans hE8).set (b := sb) (o := 0) hsb4 (txt t1)).set (b := sb) (o := 1) hsb4 (txt t2)
          obtain ⟨g0, g1, fg0, fg1⟩ := S7.ext hE8
          have zg := cell_lt g0
          dsimp only at zg
          clear e0 e1 y0 y1 ze zy hE8
          go_wp2
          exact ⟨⟨k + 1, by omega, by go_num, rfl, ⟨_, _, S8, HT.out⟩, E48⟩, by simp [intOf]; omega⟩
        · have hke : k = wd.length := by omega
          subst hke
          have h5 := hS12.out
          rw [HEND.out] at h5
          have HF : Hid (R = ((s1, s2), 0)) := by show _ = _; rw [HRQ.out, h5]
          obtain ⟨d0, d1, g0, g1⟩ := X5
          obtain ⟨e0, e1, f0, f1⟩ := S
          have zd := cell_lt d0
          have ze := cell_lt e0
          dsimp only at zd ze
          clear h5 hS12
          go_wp2
          refine bodyPost_ret (v := .tuple #[.agg #[txt s1, txt s2], .int .i64 0]) (by rw [results_cell_tmp1 rfl]; go_simp) rfl ?_
          exact ⟨by rw [HF.out], extA⟩
end Go.Proofs.YtlnonmmaknhppaaGreatDoor
namespace Go.Proofs.YtlnonmmaknhppaaGreatDoor
open Go.RowKit
open Go.Lib (decDigits itoa)
theorem inB_iff {n l h : Int} : inB n l h = true ↔ l ≤ n ∧ n ≤ h := by
  unfold inB
  rw [Bool.and_eq_true, decide_eq_true_eq, decide_eq_true_eq]
theorem presB_in (p : Int) : presB p = !inB p 1 2000 := by
  unfold presB inB
  rw [Bool.eq_iff_iff]
  simp only [Bool.or_eq_true, Bool.not_eq_true', Bool.and_eq_false_iff, decide_eq_true_eq, decide_eq_false_iff_not]
  omega
end Go.Proofs.YtlnonmmaknhppaaGreatDoor
namespace Go.Proofs.YtlnonmmaknhppaaGreatDoor
open Go.RowKit
theorem CellsK.other {w : World} {a : Option Addr} {l : List Stk} (h : CellsK w a l) {c o : Nat} {v : Value} (hn : ∀ b off, a = some ⟨b, off, none⟩ → l ≠ [] → b ≠ c) : CellsK (w.setCell ⟨c, o, none⟩ v) a l := fun i hi => by
  obtain ⟨b, off, h1, h2, h3⟩ := h i hi
  have hb := hn b off h1 (fun e => by rw [e] at hi; simp at hi)
  refine ⟨b, off, h1, ?_, ?_⟩
  · rw [World.cell?_setCell_other _ _ _ _ (fun h => by simp only [Addr.mk.injEq] at h; exact hb h.1.symm)]; exact h2
  · rw [World.cell?_setCell_other _ _ _ _ (fun h => by simp only [Addr.mk.injEq] at h; exact hb h.1.symm)]; exact h3
theorem zero_one : quoT (0, 1) = [48] := by decide +kernel
set_option maxHeartbeats 16000000 in
set_option maxRecDepth 100000 in
theorem rCycle_any (l : List Cyl) (n : Int) (st : List Stp) (p : Int) (ca : Option Addr) (cc : Nat) (a : Option Addr) (cap : Nat) (w : World) (hl : l.length ≤ 9223372036854775807) (hc : CellsC w ca l) (h64 : ∀ c ∈ l, Cyl64 c) (hs : CellsP w a st) (hsl : st.length ≤ maxLen) :
    Calls Tryz.prog 43 #[.slice ca l.length cc, .agg #[.int .i64 n, .slice a st.length cap], .int .i64 p] w (CycP (cycS l n st p) w) := by
  have HC := Lib.hid hc
  have HKR := Lib.hid (fun W (g : Ext w W) => CheckR_any n st a cap W hsl (hs.ext g))
  have HCK := Lib.hid (fun c W (h : c ∈ l) => rCheck5_any c W (h64 c h))
  have HPR := Lib.hid (fun W => in5_any p 1 2000 W)
  have HPT : Hid (∀ W, Calls Tryz.prog 75 #[.int .i64 0, .int .i64 1] W fun e w' => e = .returned (encV ([48], [48])) ∧ Ext W w') := fun W => by
    have h := rPoint5_any 0 1 W (qok_small (by decide) (by decide) (by decide) (by decide))
    rwa [zero_one] at h
  have HFW := Lib.hid (fun W (g : Ext w W) h64 hf => First_any n st a cap W h64 hf (hs.ext g))
  have HLI := fun c o (W : World) (hk : CylOk c) h1 h2 => rLitres_any c o p W hk h1 h2
  simp only [litT_is] at HLI
  replace HLI := Lib.hid HLI
  have HAD := Lib.hid (fun (M N : Int) (W : World) (hM : 0 ≤ M) (hN : 0 ≤ N) (h : M + N ≤ 10 ^ 20) => by
    have hh := sum_add hM hN h
    have h1 := rAdd2_any (sumT M) (sumT N) W hh.2.1 hh.2.2.1
    rw [hh.1] at h1
    exact h1)
  obtain ⟨R, hR⟩ : ∃ R, R = cycS l n st p := ⟨_, rfl⟩
  rw [← hR]
  unfold cycS at hR
  obtain ⟨er, her⟩ : ∃ er, er = ckSeq (n, st) := ⟨_, rfl⟩
  rw [← her] at HKR hR
  have HER := Lib.hid her
  obtain ⟨wd, hwd⟩ : ∃ wd, wd = wordL st := ⟨_, rfl⟩
  rw [← hwd] at HFW hR
  have HWE := Lib.hid hwd
  have hip : inB p 1 2000 = true ↔ 1 ≤ p ∧ p ≤ 2000 := inB_iff
  have hpe : presE1 p = if inB p 1 2000 = false then 2 else 0 := by
    unfold presE1
    rw [presB_in]
    cases inB p 1 2000 <;> rfl
  rw [hpe] at hR
  generalize inB p 1 2000 = bp at HPR hip hR
  unfold CycP
  clear hc hs her hwd hpe
  have c0 : (((w.alloc (.cells #[.int .i64 n, .slice a st.length cap] 71)).alloc (.cells #[.string ⟨#[]⟩, .string ⟨#[]⟩] 35))).cell? ⟨w.heap.size, 0, none⟩ = some (.int .i64 n) := by go_simp
  have c1 : (((w.alloc (.cells #[.int .i64 n, .slice a st.length cap] 71)).alloc (.cells #[.string ⟨#[]⟩, .string ⟨#[]⟩] 35))).cell? ⟨w.heap.size, 1, none⟩ = some (.slice a st.length cap) := by go_simp
  have X : EncAt (w.heap.size + 1) ((w.alloc (.cells #[.int .i64 n, .slice a st.length cap] 71)).alloc (.cells #[.string ⟨#[]⟩, .string ⟨#[]⟩] 35)) [] [] := ⟨by go_simp, by go_simp, by go_simp, by go_simp⟩
  have E : Ext w ((w.alloc (.cells #[.int .i64 n, .slice a st.length cap] 71)).alloc (.cells #[.string ⟨#[]⟩, .string ⟨#[]⟩] 35)) := extA
  go_enter Tryz.func43, Tryz.ntmps43
  go_wp2_with fail
  generalize ((w.alloc (.cells #[.int .i64 n, .slice a st.length cap] 71)).alloc (.cells #[.string ⟨#[]⟩, .string ⟨#[]⟩] 35)) = w0 at c0 c1 X E ⊢
  refine (HKR.out _ E).mono ?_
  rintro e w1 ⟨rfl, hE⟩
  replace X := X.ext hE
  replace E := E.trans hE
  have c0 := (hE).cell c0
  have c1 := (hE).cell c1
  clear hE HKR
  by_cases h0 : er = 0
  rotate_left
  · rw [if_pos h0] at hR
    have HR := Lib.hid hR
    have hne : ¬ (er = 0) := h0
    obtain ⟨d0, d1, g0, g1⟩ := X
    have zd := cell_lt d0
    dsimp only at zd
    clear hR h0 HER
    go_wp2
    refine bodyPost_ret (v := .tuple #[.agg #[txt [], txt []], .int .i64 er]) (by rw [results_cell_tmp1 rfl]; go_simp) rfl ?_
    exact ⟨by rw [HR.out], extA⟩
  subst h0
  rw [if_neg (not_not_intro rfl)] at hR
  have z0 := cell_lt c0
  have zd := cell_lt X.c0
  dsimp only at z0 zd
  by_cases hn : (l.length : Int) = n
  rotate_left
  · rw [if_pos hn] at hR
    have HR := Lib.hid hR
    obtain ⟨d0, d1, g0, g1⟩ := X
    clear hR HER
    go_wp2
    refine bodyPost_ret (v := .tuple #[.agg #[txt [], txt []], .int .i64 8]) (by rw [results_cell_tmp1 rfl]; go_simp) rfl ?_
    exact ⟨by rw [HR.out], extA⟩
  rw [if_neg (not_not_intro hn)] at hR
  have HN := Lib.hid hn
  obtain ⟨ce, hce⟩ : ∃ ce, ce = cylsE l := ⟨_, rfl⟩
  rw [← hce] at hR
  have M0 : Hid (ce = cylsE (l.drop 0)) := hce
  have HCE := Lib.hid hce
  have HR := Lib.hid hR
  clear hR hce
  go_wp2
  clear hn z0 zd
  go_loopw [9] (fun x wr => ∃ k : Nat, k ≤ l.length ∧ x = .int .i64 k ∧ Hid (ce = cylsE (l.drop k)) ∧ Ext w1 wr) (fun x _ => l.length - (intOf x).toNat)
  case atStart => exact ⟨0, Nat.zero_le _, rfl, M0.out, Ext.refl _⟩
  case round =>
    obtain ⟨k, hk, rfl, hz, he⟩ := hrel
    have X2 := X.ext he
    have E2 := E.trans he
    by_cases hlt : k < l.length
    · obtain ⟨b, off, ha, p0, p1, p2⟩ := HC.out.ext E2 k hlt
      subst ha
      have hz2 := hz.out.trans (cylsE_drop hlt)
      have HCc := Lib.hid (fun W => HCK.out (l.getD k cyl0) W (getD_inA hlt))
      obtain ⟨qe, hqe⟩ : ∃ qe, qe = cylE (l.getD k cyl0) := ⟨_, rfl⟩
      rw [← hqe] at hz2 HCc
      clear hqe hz
      generalize l.getD k cyl0 = c at p0 p1 p2 HCc
      obtain ⟨x, y, z⟩ := c
      dsimp only [cylV] at p0 p1 p2 HCc
      have z0 := cell_lt p0
      dsimp only at z0
      by_cases hq : qe = 0
      · rw [if_neg (not_not_intro hq)] at hz2
        have HZ := Lib.hid hz2
        subst hq
        clear hz2
        go_wp2_with fail
        refine (HCc.out _).mono ?_
        rintro e w5 ⟨rfl, hE⟩
        have E5 := he.trans hE
        clear hE
        go_wp2
        refine ⟨⟨k + 1, by omega, by go_num, HZ.out, E5⟩, by simp [intOf]; omega⟩
      · rw [if_pos hq] at hz2
        have h1 := HR.out
        rw [if_pos (by omega)] at h1
        have HRQ : Hid (R = (([], []), (qe : Int))) := by show _ = _; rw [h1, hz2]
        have hne : ¬ ((qe : Int) = 0) := by omega
        clear hz2 h1 hq
        go_wp2_with fail
        refine (HCc.out _).mono ?_
        rintro e w5 ⟨rfl, hE⟩
        have E5 := E2.trans hE
        obtain ⟨d0, d1, g0, g1⟩ := X2.ext hE
        have zd := cell_lt d0
        dsimp only at zd
        clear hE
        go_wp2
        refine bodyPost_ret (v := .tuple #[.agg #[txt [], txt []], .int .i64 (qe : Nat)]) (by rw [results_cell_tmp1 rfl]; go_simp) rfl ?_
        exact ⟨by rw [HRQ.out], extA⟩
    · have hke : k = l.length := by omega
      subst hke
      have hz2 := hz.out
      rw [List.drop_length] at hz2
      have hce0 : ce = 0 := hz2
      have h1 := HR.out
      rw [if_neg (by omega)] at h1
      clear hz hz2
      go_wp2_with fail
      refine (HPR.out _).mono ?_
      rintro e w5 ⟨rfl, hw⟩; obtain rfl := hw.symm; clear hw
      cases bp
      · rw [if_pos rfl, if_pos (by decide)] at h1
        have HRQ := Lib.hid h1
        obtain ⟨d0, d1, g0, g1⟩ := X2
        have zd := cell_lt d0
        dsimp only at zd
        clear h1 hip
        go_wp2
        refine bodyPost_ret (v := .tuple #[.agg #[txt [], txt []], .int .i64 2]) (by rw [results_cell_tmp1 rfl]; go_simp) rfl ?_
        exact ⟨by rw [HRQ.out]; rfl, extA⟩
      rw [if_neg (show ¬ (true = false) by simp), if_neg (not_not_intro rfl)] at h1
      have HRQ := Lib.hid h1
      have hck := HER.out.symm
      obtain ⟨hN1, hN6, _, hl64, hwk, _, _⟩ := ckSeq_zero hck
      have hpr := hip.1 rfl
      have HOK : Hid (CycOk l n st p) := ⟨HN.out, hN1, hN6, hl64, ckWalk_fine hwk, cylsE_zero (HCE.out.symm.trans hce0), hpr.1, hpr.2⟩
      have hwd := HWE.out
      have hwl := word_len HOK.out.fine hl64
      rw [← hwd] at hwl
      have HFW2 := Lib.hid (fun W g => HFW.out W g hl64 HOK.out.fine)
      have HAT : Hid (∀ k, k < wd.length → ∃ i : Nat, (wd.getD k stk0).1 = (i : Int) ∧ i < l.length ∧ CylOk (l.getD i cyl0) ∧ (∀ o, 0 ≤ litN (l.getD i cyl0) o p ∧ litN (l.getD i cyl0) o p ≤ 1575750000000)) := fun k hk => by
        have := HOK.out.at (k := k) (by rw [← hwd]; exact hk)
        rw [← hwd] at this
        exact this
      have HBD : Hid (∀ k, 0 ≤ strN l p (wd.take k) ∧ strN l p (wd.take k) ≤ 384 * 1575750000000) := fun k => by
        have := HOK.out.bd k
        rw [← hwd] at this
        exact this
      have HTK : Hid (∀ k, k < wd.length → strN l p (wd.take (k + 1)) = strN l p (wd.take k) + litN (l.getD (wd.getD k stk0).1.toNat cyl0) (wd.getD k stk0).2 p) := fun k hk => strN_take l p hk
      have HS0 : Hid (sumT (strN l p (wd.take 0)) = ([48], [48])) := by show _ = _; rw [List.take_zero]; exact sum_zero
      have HEND : Hid (strN l p (wd.take wd.length) = strN l p wd) := by show _ = _; rw [List.take_length]
      have HLI2 := Lib.hid (fun c o W hk => HLI.out c o W hk hpr.1 hpr.2)
      clear h1 hwk hck hwd HWE HOK hpr HLI hce0 hN1 hN6 hl64 HR HCE HN HER M0 HFW hip
      have zd := cell_lt X2.c0
      dsimp only at zd
      go_wp2_with fail
      refine (HPT.out _).mono ?_
      rintro e w4 ⟨rfl, hE4⟩
      have X4 := X2.ext hE4
      have E4 := E2.trans hE4
      have HC4 := Lib.hid (HC.out.ext E4)
      have c0 := hE4.cell (he.cell c0)
      have c1 := hE4.cell (he.cell c1)
      clear X2 E2 hE4 HC
      have EB : Ext w4 (w4.alloc (.cells #[txt [48], txt [48]] 35)) := extA
      have S0 : EncAt w4.heap.size (w4.alloc (.cells #[txt [48], txt [48]] 35)) [48] [48] := ⟨by go_simp, by go_simp, by go_simp, by go_simp⟩
      have c0 := EB.cell c0
      have c1 := EB.cell c1
      have z0 := cell_lt c0
      dsimp only at z0
      dsimp only [encV]
      go_wp2_with fail
      obtain ⟨sb, hsb⟩ : ∃ b, b = w4.heap.size := ⟨_, rfl⟩
      rw [← hsb] at S0 ⊢
      have hsb4 : w4.heap.size ≤ sb := by omega
      have hsb5 : sb < (w4.alloc (.cells #[txt [48], txt [48]] 35)).heap.size := cell_lt S0.c0
      clear hsb z0
      generalize (w4.alloc (.cells #[txt [48], txt [48]] 35)) = w6 at EB S0 hsb5 c0 c1 ⊢
      refine (HFW2.out _ (E4.trans EB)).mono ?_
      rintro e w7 ⟨v, rfl, hO, hbo, hE7⟩
      obtain ⟨wa, wc, rfl, hcw, hlw, hwo⟩ := hO.reads
      have HWO : Hid (∀ b off, wa = some ⟨b, off, none⟩ → wd ≠ [] → b ≠ sb) := fun b off h1 h2 => by
        have h3 := (hwo b off h1 h2).2.1
        have h4 := hbo b h3
        omega
      have S7 := S0.ext hE7
      have E47 := EB.trans hE7
      have HCW0 := Lib.hid hcw
      clear hO hbo hcw hwo hE7 S0 EB c0 c1
      go_wp2_with fail
      go_loopw [49] (fun x wr => ∃ k : Nat, k ≤ wd.length ∧ x = .int .i64 k ∧ (∃ s1 s2, EncAt sb wr s1 s2 ∧ Hid ((s1, s2) = sumT (strN l p (wd.take k)))) ∧ Hid (CellsK wr wa wd) ∧ Ext w4 wr) (fun x _ => wd.length - (intOf x).toNat)
      case atStart => exact ⟨0, Nat.zero_le _, rfl, ⟨_, _, S7, HS0.out.symm⟩, HCW0.out, E47⟩
      case round =>
        obtain ⟨k, hk, rfl, ⟨s1, s2, S, hS12⟩, hcw, he4⟩ := hrel
        have X5 := X4.ext he4
        have E5 := E4.trans he4
        by_cases hlt : k < wd.length
        · obtain ⟨wb, wo, hwa, q1, q2⟩ := hcw.out k hlt
          subst hwa
          obtain ⟨i, hi1, hi2, hi3, hi4⟩ := HAT.out k hlt
          have htk := HTK.out k hlt
          rw [hi1, Int.toNat_natCast] at htk
          obtain ⟨cb, co, hca, r0, r1, r2⟩ := HC4.out.ext he4 i hi2
          subst hca
          rw [hi1] at q1
          have hbd := HBD.out k
          have HL := HLI2.out (l.getD i cyl0) (wd.getD k stk0).2
          have hn4 := hi4 (wd.getD k stk0).2
          have HA2 := fun W => HAD.out (strN l p (wd.take k)) (litN (l.getD i cyl0) (wd.getD k stk0).2 p) W hbd.1 hn4.1 (by omega)
          rw [← htk, ← hS12.out] at HA2
          generalize (wd.getD k stk0).2 = o at q2 HL HA2
          obtain ⟨N, hN⟩ : ∃ N, N = sumT (litN (l.getD i cyl0) o p) := ⟨_, rfl⟩
          rw [← hN] at HL HA2
          obtain ⟨T, hT⟩ : ∃ T, T = sumT (strN l p (wd.take (k + 1))) := ⟨_, rfl⟩
          rw [← hT] at HA2
          have HT := Lib.hid hT
          unfold EncP at HA2
          have HL' := fun W => HL W hi3
          generalize l.getD i cyl0 = c at r0 r1 r2 HL'
          obtain ⟨cx, cy, cz⟩ := c
          obtain ⟨n1, n2⟩ := N
          obtain ⟨t1, t2⟩ := T
          dsimp only [encV, cylV] at HL' HA2 r0 r1 r2
          replace HL := Lib.hid HL'
          replace HA2 := Lib.hid HA2
          clear HL' hN hT hi1 hi3 hi4 htk hbd hn4 hS12
          have z1 := cell_lt q1
          have zs := cell_lt S.c0
          dsimp only at z1 zs
          have hiI : (i : Int) < (l.length : Int) := by omega
          go_wp2_with fail
          have d0 : ((wr.alloc (.cells #[.int .i64 i, .bool o] 84))).cell? ⟨wr.heap.size, 0, none⟩ = some (.int .i64 i) := by go_simp
          have d1 : ((wr.alloc (.cells #[.int .i64 i, .bool o] 84))).cell? ⟨wr.heap.size, 1, none⟩ = some (.bool o) := by go_simp
          have EWB : Ext wr (wr.alloc (.cells #[.int .i64 i, .bool o] 84)) := extA
          have r0 := EWB.cell r0
          have r1 := EWB.cell r1
          have r2 := EWB.cell r2
          have s0 := EWB.cell S.c0
          have s1' := EWB.cell S.c1
          obtain ⟨kb, hkb⟩ : ∃ b, b = wr.heap.size := ⟨_, rfl⟩
          rw [← hkb] at d0 d1 ⊢
          clear q1 q2 z1 zs hkb
          have hS : Ext (wr.alloc (.cells #[.int .i64 i, .bool o] 84)) ((wr.alloc (.cells #[.int .i64 i, .bool o] 84))).drew := extA
          generalize (wr.alloc (.cells #[.int .i64 i, .bool o] 84)) = W6 at d0 d1 EWB r0 r1 r2 s0 s1' hS ⊢
          refine wp_region_heldE 14 (Ext W6) (by kernel_rfl) ?_
          generalize W6.drew = v0 at hS ⊢
          (refine wpAnyE_take (oi := ?_) (v := ?_) (i := 0) ?_ (by kernel_rfl) ?_ ?_ (by assumption) ?_; rotate_left 2; (focus ((simp only [List.getElem?_toArray, List.getElem?_cons_zero]; exact rfl))); (focus (exact fun _ _ _ h => h)); (focus (refine Or.inl ⟨by rfl, ?_⟩; intro w hSw; have hs0 := hSw.cell s0; have zs0 := cell_lt hs0; dsimp only at zs0; have hs1' := hSw.cell s1'; have zs1' := cell_lt hs1'; dsimp only at zs1'; (first | (go_simp; done) | (go_simp; with_reducible rfl)))); (try simp only [Act.put, List.setIfInBounds_toArray, List.set_cons_zero, List.set_cons_succ]))
          ((refine ePu 1 ?_); (refine ePu 2 ?_))
          (refine wpAnyE_take (oi := ?_) (v := ?_) (i := 3) ?_ (by kernel_rfl) ?_ ?_ (by assumption) ?_; rotate_left 2; (focus ((simp only [List.getElem?_toArray, List.getElem?_cons_succ, List.getElem?_cons_zero]; exact rfl))); (focus (exact fun _ _ _ h => h)); (focus (refine Or.inl ⟨by rfl, ?_⟩; intro w hSw; have hd0 := hSw.cell d0; have zd0 := cell_lt hd0; dsimp only at zd0; (first | (go_simp; done) | (go_simp; with_reducible rfl)))); (try simp only [Act.put, List.setIfInBounds_toArray, List.set_cons_zero, List.set_cons_succ]))
          (refine ePu 4 ?_)
          (refine wpAnyE_take (oi := ?_) (v := ?_) (i := 5) ?_ (by kernel_rfl) ?_ ?_ (by assumption) ?_; rotate_left 2; (focus ((simp only [List.getElem?_toArray, List.getElem?_cons_succ, List.getElem?_cons_zero]; exact rfl))); (focus (exact fun _ _ _ h => h)); (focus (refine Or.inl ⟨by rfl, ?_⟩; intro w hSw; have hr0 := hSw.cell r0; have zr0 := cell_lt hr0; dsimp only at zr0; have hr1 := hSw.cell r1; have zr1 := cell_lt hr1; dsimp only at zr1; have hr2 := hSw.cell r2; have zr2 := cell_lt hr2; dsimp only at zr2; (first | (go_simp; done) | (go_simp; with_reducible rfl)))); (try simp only [Act.put, List.setIfInBounds_toArray, List.set_cons_zero, List.set_cons_succ]))
          (refine ePu 6 ?_)
          (refine wpAnyE_take (oi := ?_) (v := ?_) (i := 7) ?_ (by kernel_rfl) ?_ ?_ (by assumption) ?_; rotate_left 2; (focus ((simp only [List.getElem?_toArray, List.getElem?_cons_succ, List.getElem?_cons_zero]; exact rfl))); (focus (exact fun _ _ _ h => h)); (focus (refine Or.inl ⟨by rfl, ?_⟩; intro w hSw; have hd1 := hSw.cell d1; have zd1 := cell_lt hd1; dsimp only at zd1; (first | (go_simp; done) | (go_simp; with_reducible rfl)))); (try simp only [Act.put, List.setIfInBounds_toArray, List.set_cons_zero, List.set_cons_succ]))
          (refine ePu 8 ?_)
          (refine wpAnyE_one (i := 9) (o := ?_) ?_ (by kernel_rfl) (fun K hK => ?_); rotate_left; (focus ((simp only [List.getElem?_toArray, List.getElem?_cons_succ, List.getElem?_cons_zero]; exact rfl))); go_simp; refine (HL.out _).mono ?_; rintro e v9 ⟨rfl, hE⟩; go_wp2_with fail; refine hK.out _ _ (hS.trans hE) (fun hHeld => ?_); clear hK K hHeld; (try simp only [Act.put, List.setIfInBounds_toArray, List.set_cons_zero, List.set_cons_succ]); replace hS := hS.trans hE; clear hE)
          (refine wpAnyE_one (i := 10) (o := ?_) ?_ (by kernel_rfl) (fun K hK => ?_); rotate_left; (focus ((simp only [List.getElem?_toArray, List.getElem?_cons_succ, List.getElem?_cons_zero]; exact rfl))); go_simp; refine (HA2.out _).mono ?_; rintro e v9 ⟨rfl, hE⟩; go_wp2_with fail; refine hK.out _ _ (hS.trans hE) (fun hHeld => ?_); clear hK K hHeld; (try simp only [Act.put, List.setIfInBounds_toArray, List.set_cons_zero, List.set_cons_succ]); replace hS := hS.trans hE; clear hE)
          ((refine ePu 11 ?_); (refine ePu 12 ?_); (refine ePu 13 ?_))
          have S8 := ((S.ext (EWB.trans hS)).set0 t1).set1 t2
          have E48 := ((he4.trans (EWB.trans hS)).set (b := sb) (o := 0) hsb4 (txt t1)).set (b := sb) (o := 1) hsb4 (txt t2)
          have HCW8 : Hid (CellsK ((v9.setCell ⟨sb, 0, none⟩ (txt t1)).setCell ⟨sb, 1, none⟩ (txt t2)) (some ⟨wb, wo, none⟩) wd) := ((hcw.out.ext (EWB.trans hS)).other HWO.out).other HWO.out
          obtain ⟨g0, g1, fg0, fg1⟩ := S.ext (EWB.trans hS)
          have zg := cell_lt g0
          dsimp only at zg
          (refine wpAnyE_free (i := 14) (o := ?_) ?_ (by kernel_rfl) (by kernel_rfl) (fun K hK => ?_); rotate_left; (focus ((simp only [List.getElem?_toArray, List.getElem?_cons_succ, List.getElem?_cons_zero]; exact rfl))); go_simp; refine hK.out _ _ ?_; clear hK K; (try simp only [Act.put, List.setIfInBounds_toArray, List.set_cons_zero, List.set_cons_succ]))
          refine wpAnyE_done (by kernel_rfl) ?_ _
          clear g0 g1 fg0 fg1 zg
          go_wp2
          exact ⟨⟨k + 1, by omega, by go_num, ⟨_, _, S8, HT.out⟩, HCW8.out, E48⟩, by simp [intOf]; omega⟩
        · have hke : k = wd.length := by omega
          subst hke
          have h5 := hS12.out
          rw [HEND.out] at h5
          have HF : Hid (R = ((s1, s2), 0)) := by show _ = _; rw [HRQ.out, h5]
          obtain ⟨d0, d1, g0, g1⟩ := X5
          obtain ⟨e0, e1, f0, f1⟩ := S
          have zd := cell_lt d0
          have ze := cell_lt e0
          dsimp only at zd ze
          clear h5 hS12
          go_wp2
          refine bodyPost_ret (v := .tuple #[.agg #[txt s1, txt s2], .int .i64 0]) (by rw [results_cell_tmp1 rfl]; go_simp) rfl ?_
          exact ⟨by rw [HF.out], extA⟩
end Go.Proofs.YtlnonmmaknhppaaGreatDoor
