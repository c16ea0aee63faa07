/- Steps of the proof: GCase. No conditions. -/
import Derived.Test.YtdolibeceijnnaaDoorZGL1
import Derived.Test.YtdolibeceijnnaaDoorZGL2
import Derived.Test.YtdolibeceijnnaaDoorZGL3
import Derived.Test.YtdolibeceijnnaaDoorZGL4
namespace Go.Proofs.YtdolibeceijnnaaDoor
open Go.RowKit
set_option maxHeartbeats 4000000 in
theorem caseParsed_any (s : ByteArray) (q : Sq) (w : World) (h : sqL s.toList = some q) :
    Calls Tryd.prog 27 #[.string s] w (RmPost q w) := by
  go_enter Tryd.func27, Tryd.ntmps27
  go_wp2_with fail
  have E1 : Ext w (w.alloc (.cells #[.int .i64 0, .slice none 0 0] 24)) := extA
  have c0 : (w.alloc (.cells #[.int .i64 0, .slice none 0 0] 24)).cell? ⟨w.heap.size, 0, none⟩ = some (.int .i64 0) := by go_simp
  have c1 : (w.alloc (.cells #[.int .i64 0, .slice none 0 0] 24)).cell? ⟨w.heap.size, 1, none⟩ = some (.slice none 0 0) := by go_simp
  have f0 : (w.alloc (.cells #[.int .i64 0, .slice none 0 0] 24)).frozen? ⟨w.heap.size, 0, none⟩ = false := by go_simp
  have f1 : (w.alloc (.cells #[.int .i64 0, .slice none 0 0] 24)).frozen? ⟨w.heap.size, 1, none⟩ = false := by go_simp
  generalize (w.alloc (.cells #[.int .i64 0, .slice none 0 0] 24)) = W at E1 c0 c1 f0 f1 ⊢
  refine (Parse_any s q _ h).mono ?_
  rintro e w1 ⟨a, cap, rfl, hc, hm, hr, hE⟩
  obtain ⟨n, L⟩ := q
  dsimp only at hc hm hr ⊢
  have HC := Lib.hid hc
  have HM := Lib.hid hm
  have HR := Lib.hid hr
  clear hc hm hr
  have E4 := E1.trans hE
  have d0 := hE.cell c0
  have d1 := hE.cell c1
  have g0 := (Below.frozen (p := ⟨w.heap.size, 0, none⟩) hE (cell_lt c0)).trans f0
  have g1 := (Below.frozen (p := ⟨w.heap.size, 1, none⟩) hE (cell_lt c1)).trans f1
  have hzW : olB W w.heap.size := cell_lt c0
  have hz := cell_lt d0
  dsimp only at hz
  have EF : Ext w (((w1.setCell ⟨w.heap.size, 0, none⟩ (.int .i64 n)).setCell ⟨w.heap.size, 1, none⟩ (.slice a L.length cap)).alloc (.cells #[.int .i64 n, .slice a L.length cap] 24)) := ((E4.set (by omega) _).set (by omega) _).alloc _
  have hCF : Hid (CellsP (((w1.setCell ⟨w.heap.size, 0, none⟩ (.int .i64 n)).setCell ⟨w.heap.size, 1, none⟩ (.slice a L.length cap)).alloc (.cells #[.int .i64 n, .slice a L.length cap] 24)) a L) :=
    HC.out _ (((Chg.setCell (B := olB W) ⟨w.heap.size, 0, none⟩ (.int .i64 n) hzW).trans (Chg.setCell (B := olB W) ⟨w.heap.size, 1, none⟩ (.slice a L.length cap) hzW)).trans (Chg.ext ((Ext.refl _).alloc _)))
  go_wp2
  refine bodyPost_ret (v := .agg #[.int .i64 n, .slice a L.length cap]) (by rw [results_cell1 rfl]; go_simp) rfl ⟨a, cap, rfl, hCF.out, HM.out, HR.out, EF⟩
def smallB (n : Int) (l : List Stp) (k : Nat) : Bool := decide (l.length ≤ k) && fewB l && decide (ckSeq (n, l) = 0)
theorem smallB_true {n : Int} {l : List Stp} {k : Nat} (h : smallB n l k = true) : l.length ≤ k ∧ ckSeq (n, l) = 0 := by
  unfold smallB at h
  rw [Bool.and_eq_true, Bool.and_eq_true] at h
  exact ⟨of_decide_eq_true h.1.1, of_decide_eq_true h.2⟩
set_option maxHeartbeats 8000000 in
set_option maxRecDepth 100000 in
theorem caseSmall_any (n : Int) (l : List Stp) (a : Option Addr) (cap k : Nat) (w : World) (hc : CellsP w a l) (hr : Room a l.length cap) :
    Calls Tryd.prog 7 #[.agg #[.int .i64 n, .slice a l.length cap], .int .i64 k] w fun e w' => e = .returned (.bool (smallB n l k)) ∧ Ext w w' := by
  have HC := Lib.hid hc
  have HR := Lib.hid hr
  obtain ⟨R, hR⟩ : ∃ R, R = smallB n l k := ⟨_, rfl⟩
  rw [← hR]
  have HRR : Hid (R = (decide (l.length ≤ k) && fewB l && decide (ckSeq (n, l) = 0))) := hR
  clear hc hr hR
  have E0 : Ext w (w.alloc (.cells #[.int .i64 n, .slice a l.length cap] 24)) := extA
  have c0 : ((w.alloc (.cells #[.int .i64 n, .slice a l.length cap] 24))).cell? ⟨w.heap.size, 0, none⟩ = some (.int .i64 n) := by go_simp
  have c1 : ((w.alloc (.cells #[.int .i64 n, .slice a l.length cap] 24))).cell? ⟨w.heap.size, 1, none⟩ = some (.slice a l.length cap) := by go_simp
  by_cases hk : l.length ≤ k
  · have HRR2 : Hid (R = (fewB l && decide (ckSeq (n, l) = 0))) := by show _ = _; rw [HRR.out, decide_eq_true hk, Bool.true_and]
    go_enter Tryd.func7, Tryd.ntmps7
    go_wp2_with fail
    obtain ⟨bs, hbs⟩ : ∃ bs, bs = w.heap.size := ⟨_, rfl⟩
    rw [← hbs] at c0 c1 ⊢
    clear hbs HRR
    generalize (w.alloc (.cells #[.int .i64 n, .slice a l.length cap] 24)) = W at E0 c0 c1 ⊢
    refine (Few_any (.int .i64 n) l a cap _ HR.out (HC.out.ext E0)).mono ?_
    rintro e w1 ⟨rfl, hE⟩
    have F1 := E0.trans hE
    have c0 := (hE).cell c0
    have c1 := (hE).cell c1
    generalize fewB l = fw at HRR2 ⊢
    cases fw
    · have h := HRR2.out
      rw [Bool.false_and] at h
      subst h
      clear HRR2
      go_wp2
      go_ret
      exact ⟨rfl, F1⟩
    · have H := Lib.hid HRR2.out
      rw [Bool.true_and] at H
      clear HRR2
      go_wp2_with fail
      refine (CheckR_any n l a cap _ HR.out (HC.out.ext F1)).mono ?_
      rintro e w2 ⟨rfl, hE⟩
      have F2 := F1.trans hE
      obtain ⟨er, her⟩ : ∃ er, er = ckSeq (n, l) := ⟨_, rfl⟩
      rw [← her] at H ⊢
      clear her hE F1
      by_cases h0 : er = 0
      · have h := H.out
        rw [decide_eq_true h0] at h
        subst h
        subst h0
        clear H
        go_wp2
        go_ret
        exact ⟨rfl, F2⟩
      · have h := H.out
        rw [decide_eq_false h0] at h
        subst h
        have h1 : (er == 0) = false := by simp [h0]
        clear H h0
        go_wp2
        go_ret
        exact ⟨rfl, F2⟩
  · have h := HRR.out
    rw [decide_eq_false hk, Bool.false_and, Bool.false_and] at h
    subst h
    have h31 : ¬ (l.length : Int) ≤ (k : Int) := by omega
    clear HRR hk
    go_enter Tryd.func7, Tryd.ntmps7
    go_wp2
    go_ret
    exact ⟨rfl, E0⟩
def gq1 : Sq := (2, [([(0, true)], 0), ([(1, true)], 0), ([(0, false)], 20), ([(1, false)], 0)])
def gq2 : Sq := (2, [([(0, true)], 0), ([(0, false)], 0), ([(1, true)], 0), ([(1, false)], 0)])
theorem gq1_text : sqL (ByteArray.mk #[65, 43, 59, 32, 66, 43, 59, 32, 65, 45, 32, 50, 48, 59, 32, 66, 45]).toList = some gq1 := by rw [ByteArray.toList_eq]; decide +kernel
theorem gq2_text : sqL (ByteArray.mk #[65, 43, 59, 32, 65, 45, 59, 32, 66, 43, 59, 32, 66, 45]).toList = some gq2 := by rw [ByteArray.toList_eq]; decide +kernel
theorem gq1_ck : ckSeq (gq1.1, gq1.2) = 0 ∧ intsN (longS (okF (cyc gq1.2)) gq1.2.length 0) = [0, 2] := by decide +kernel
theorem gq2_ck : ckSeq (gq2.1, gq2.2) = 0 ∧ intsN (ringS (okF (cyc gq2.2)) gq2.2.length) = [1, 3] := by decide +kernel
set_option maxHeartbeats 8000000 in
set_option maxRecDepth 100000 in
theorem caseGroups_any (w : World) (hG : GBits w) : Calls Tryd.prog 8 #[] w fun e w' => e = .returned (.bool true) ∧ Ext w w' := by
  have HG := Lib.hid hG
  clear hG
  go_enter Tryd.func8, Tryd.ntmps8
  go_wp2_with fail
  refine (caseParsed_any _ gq1 _ gq1_text).mono ?_
  rintro e w1 ⟨a1, d1, rfl, hc1, _, _, hE1⟩
  have HC1 := Lib.hid hc1
  have HF1 := Lib.hid (fun W hG hc => Fewest_any gq1.1 gq1.2 a1 d1 W gq1_ck.1 hG hc)
  rw [gq1_ck.2] at HF1
  clear hc1
  go_wp2_with fail
  refine (HF1.out _ (HG.out.ext hE1) HC1.out).mono ?_
  rintro e w2 ⟨ra, rc, rfl, hr, _, hE2⟩
  have HI1 := Lib.hid hr
  have F2 := hE1.trans hE2
  clear hr HC1 HF1 hE1 hE2
  go_wp2_with fail
  refine (caseParsed_any _ gq2 _ gq2_text).mono ?_
  rintro e w3 ⟨a3, d3, rfl, hc3, _, _, hE3⟩
  have HC3 := Lib.hid hc3
  have HF3 := Lib.hid (fun W hG hc => Ring_any gq2.1 gq2.2 a3 d3 W gq2_ck.1 hG hc)
  rw [gq2_ck.2] at HF3
  have F3 := F2.trans hE3
  replace HI1 := Lib.hid (HI1.out.ext hE3)
  clear hc3 F2 hE3
  go_wp2_with fail
  refine (HF3.out _ (HG.out.ext F3) HC3.out).mono ?_
  rintro e w4 ⟨rb, rd, rfl, hr4, _, hE4⟩
  have HI2 := Lib.hid hr4
  have F4 := F3.trans hE4
  replace HI1 := Lib.hid (HI1.out.ext hE4)
  clear hr4 HC3 HF3 F3 hE4
  go_wp2_with fail
  have E5 : Ext w4 (w4.alloc (.cells #[.int .i64 0, .int .i64 2] 3)) := extA
  refine (aw_Equal [0, 2] (by decide) ra _ rc _ _ (HI1.out.ext E5) (cellsI_two (by go_simp) (by go_simp))).mono ?_
  rintro e w5 ⟨rfl, hE5⟩
  have F5 := F4.trans (E5.trans hE5)
  replace HI2 := Lib.hid (HI2.out.ext (E5.trans hE5))
  clear HI1 E5 hE5 F4
  go_wp2_with fail
  have E6 : Ext w5 (w5.alloc (.cells #[.int .i64 1, .int .i64 3] 3)) := extA
  refine (aw_Equal [1, 3] (by decide) rb _ rd _ _ (HI2.out.ext E6) (cellsI_two (by go_simp) (by go_simp))).mono ?_
  rintro e w6 ⟨rfl, hE6⟩
  go_wp2
  go_ret
  exact ⟨rfl, F5.trans (E6.trans hE6)⟩
end Go.Proofs.YtdolibeceijnnaaDoor
