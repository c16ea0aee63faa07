/- The errors of cells; given, listed. -/
import Derived.Test.YtfigooilhnahfaaChkR
namespace Go.Proofs.Ytfigooilhnahfaa
open Go.RowKit

theorem drop_pt (l : List Pt) (k : Nat) (h : k < l.length) : l.drop k = pt l k :: l.drop (k + 1) := by
  unfold pt
  rw [List.getD_eq_getElem?_getD, List.getElem?_eq_getElem h]
  exact List.drop_eq_getElem_cons h

set_option maxHeartbeats 2000000 in
theorem cells_any (g : Gr) (l : List Pt) (ga : Option Addr) (gc : Nat) (a : Option Addr) (cap : Nat) (w : World) (hr : Right g) (hc : Cells2 w ga g.bl) (hl : l.length ≤ maxLen) (hcl : Cells2 w a l) :
    Calls Try.prog 53 #[.agg #[.int .i64 g.rows, .int .i64 g.cols, .slice ga g.bl.length gc], .slice a l.length cap] w fun e w' => e = .returned (.int .i64 (cellsErr g l)) ∧ Ext w w' := by
  unfold maxLen at hl
  have HR := Lib.hid hr
  have HC : Hid (Cells2 w ga g.bl) := hc
  have HL : Hid (Cells2 w a l) := hcl
  clear hc hcl hr
  have H : Ext w (w.alloc (.cells #[.int .i64 g.rows, .int .i64 g.cols, .slice ga g.bl.length gc] 33)) := (Ext.refl _).alloc _
  go_enter Try.func53, Try.ntmps53
  go_wp2
  have d1 : (w.alloc (.cells #[.int .i64 g.rows, .int .i64 g.cols, .slice ga g.bl.length gc] 33)).cell? ⟨w.heap.size, 0, none⟩ = some (.int .i64 g.rows) := by go_simp
  have d2 : (w.alloc (.cells #[.int .i64 g.rows, .int .i64 g.cols, .slice ga g.bl.length gc] 33)).cell? ⟨w.heap.size, 1, none⟩ = some (.int .i64 g.cols) := by go_simp
  have d3 : (w.alloc (.cells #[.int .i64 g.rows, .int .i64 g.cols, .slice ga g.bl.length gc] 33)).cell? ⟨w.heap.size, 2, none⟩ = some (.slice ga g.bl.length gc) := by go_simp
  generalize w.alloc (.cells #[.int .i64 g.rows, .int .i64 g.cols, .slice ga g.bl.length gc] 33) = W at H d1 d2 d3 ⊢
  go_loopw [9] (fun i wr => ∃ k : Nat, k ≤ l.length ∧ i = .int .i64 k ∧ Hid (cellsErr g l = cellsErr g (l.drop k)) ∧ Ext W wr) (fun i _ => l.length - (intOf i).toNat)
  case atStart => exact ⟨0, Nat.zero_le _, rfl, by show _ = _; rw [List.drop_zero], Ext.refl _⟩
  case round =>
    obtain ⟨k, hk, rfl, hn, he⟩ := hrel
    have b1 := he.cell d1
    have b2 := he.cell d2
    have b3 := he.cell d3
    have b4 := cell_lt b1
    dsimp only at b4
    by_cases hlt : k < l.length
    · have hst : Hid (cellsErr g (l.drop k) = if inside g (pt l k) = false then 2 else if blk g (pt l k) = true then 14 else cellsErr g (l.drop (k + 1))) := by
        show _ = _
        rw [drop_pt l k hlt]
        rfl
      obtain ⟨b, off, ha, e1, e2⟩ := HL.out.ext (H.trans he) k hlt
      have e3 := cell_lt e1
      dsimp only at e3
      subst ha
      clear d1 d2 d3
      cases hin : inside g (pt l k)
      · go_wp2_with (go_at_call 64; refine (inside_any g (pt l k) _ _).mono ?_; rintro e w1 ⟨rfl, hE⟩)
        go_ret
        exact ⟨ret_int (by rw [hn.out, hst.out, if_pos hin]), (H.trans he).trans (((Ext.refl _).alloc _).trans (by assumption))⟩
      · cases hb : blk g (pt l k)
        · go_wp2_with (first | (go_at_call 64; refine (inside_any g (pt l k) _ _).mono ?_; rintro e w1 ⟨rfl, hE⟩; have hS := sees hE; have z1 : w.heap.size < w1.heap.size := hE.size_lt (by simp; omega); have z2 : wr.heap.size < w1.heap.size := hE.size_lt (by simp)) | (go_at_call 60; refine (blocked_any g (pt l k) ga gc _ HR.out (HC.out.ext ((H.trans he).trans (((Ext.refl _).alloc _).trans hE)))).mono ?_; rintro e w2 ⟨rfl, hE2⟩))
          refine ⟨⟨k + 1, by omega, by go_num, by show _ = _; rw [hn.out, hst.out, if_neg (by simp [hin]), if_neg (by simp [hb])], he.trans ((((Ext.refl _).alloc _).trans hE).trans hE2)⟩, by simp [intOf]; omega⟩
        · go_wp2_with (first | (go_at_call 64; refine (inside_any g (pt l k) _ _).mono ?_; rintro e w1 ⟨rfl, hE⟩; have hS := sees hE; have z1 : w.heap.size < w1.heap.size := hE.size_lt (by simp; omega); have z2 : wr.heap.size < w1.heap.size := hE.size_lt (by simp)) | (go_at_call 60; refine (blocked_any g (pt l k) ga gc _ HR.out (HC.out.ext ((H.trans he).trans (((Ext.refl _).alloc _).trans hE)))).mono ?_; rintro e w2 ⟨rfl, hE2⟩))
          go_ret
          exact ⟨ret_int (by rw [hn.out, hst.out, if_neg (by simp [hin]), if_pos hb]), (H.trans he).trans ((((Ext.refl _).alloc _).trans hE).trans hE2)⟩
    · go_wp2
      go_ret
      exact ⟨ret_int (by rw [hn.out, List.drop_eq_nil_of_le (by omega)]; rfl), H.trans he⟩

set_option maxHeartbeats 2000000 in
theorem cellsR_any (g : Gr) (l : List Pt) (ga : Option Addr) (gc : Nat) (a : Option Addr) (cap : Nat) (w : World) (hg : g.bl.length ≤ maxLen) (hc : Cells2 w ga g.bl) (hl : l.length ≤ maxLen) (hcl : Cells2 w a l) :
    Calls Try.prog 72 #[.agg #[.int .i64 g.rows, .int .i64 g.cols, .slice ga g.bl.length gc], .slice a l.length cap] w fun e w' => e = .returned (.int .i64 (cellsErr g l)) ∧ Ext w w' := by
  unfold maxLen at hl
  have HC : Hid (Cells2 w ga g.bl) := hc
  have HL : Hid (Cells2 w a l) := hcl
  have HG := Lib.hid hg
  clear hc hcl hg
  have H : Ext w (w.alloc (.cells #[.int .i64 g.rows, .int .i64 g.cols, .slice ga g.bl.length gc] 24)) := (Ext.refl _).alloc _
  go_enter Try.func72, Try.ntmps72
  go_wp2
  have d1 : (w.alloc (.cells #[.int .i64 g.rows, .int .i64 g.cols, .slice ga g.bl.length gc] 24)).cell? ⟨w.heap.size, 0, none⟩ = some (.int .i64 g.rows) := by go_simp
  have d2 : (w.alloc (.cells #[.int .i64 g.rows, .int .i64 g.cols, .slice ga g.bl.length gc] 24)).cell? ⟨w.heap.size, 1, none⟩ = some (.int .i64 g.cols) := by go_simp
  have d3 : (w.alloc (.cells #[.int .i64 g.rows, .int .i64 g.cols, .slice ga g.bl.length gc] 24)).cell? ⟨w.heap.size, 2, none⟩ = some (.slice ga g.bl.length gc) := by go_simp
  generalize w.alloc (.cells #[.int .i64 g.rows, .int .i64 g.cols, .slice ga g.bl.length gc] 24) = W at H d1 d2 d3 ⊢
  go_loopw [5] (fun i wr => ∃ k : Nat, k ≤ l.length ∧ i = .int .i64 k ∧ Hid (cellsErr g l = cellsErr g (l.drop k)) ∧ Ext W wr) (fun i _ => l.length - (intOf i).toNat)
  case atStart => exact ⟨0, Nat.zero_le _, rfl, by show _ = _; rw [List.drop_zero], Ext.refl _⟩
  case round =>
    obtain ⟨k, hk, rfl, hn, he⟩ := hrel
    have b1 := he.cell d1
    have b2 := he.cell d2
    have b3 := he.cell d3
    have b4 := cell_lt b1
    dsimp only at b4
    by_cases hlt : k < l.length
    · have hst : Hid (cellsErr g (l.drop k) = if inside g (pt l k) = false then 2 else if blk g (pt l k) = true then 14 else cellsErr g (l.drop (k + 1))) := by
        show _ = _
        rw [drop_pt l k hlt]
        rfl
      obtain ⟨b, off, ha, e1, e2⟩ := HL.out.ext (H.trans he) k hlt
      have e3 := cell_lt e1
      dsimp only at e3
      subst ha
      clear d1 d2 d3
      cases hin : inside g (pt l k)
      · go_wp2
        go_region_held3 (fun w' => Sees wr w') ((repeat (first | exact Sees.refl _ | assumption | apply Sees.drew | apply Sees.alloc | (refine Sees.ext ?_ (by assumption))))) (first | (go_at_call 58; refine (Cell_any g (pt l k) _ _).mono ?_; rintro e w1 ⟨rfl, hE⟩))
        go_wp2
        go_ret
        exact ⟨ret_int (by rw [hn.out, hst.out, if_pos hin]), (H.trans he).trans (show Sees wr _ by assumption).2.2⟩
      · cases hb : decide (pt l k ∈ g.bl)
        · go_wp2
          go_region_held3 (fun w' => Sees wr w') ((repeat (first | exact Sees.refl _ | assumption | apply Sees.drew | apply Sees.alloc | (refine Sees.ext ?_ (by assumption))))) (first | (go_at_call 58; refine (Cell_any g (pt l k) _ _).mono ?_; rintro e w1 ⟨rfl, hE⟩))
          go_wp2
          go_region_held3 (fun w' => Sees wr w') ((repeat (first | exact Sees.refl _ | assumption | apply Sees.drew | apply Sees.alloc | (refine Sees.ext ?_ (by assumption))))) (first | (go_at_call 59; refine (Has_any g.bl (pt l k) ga gc _ HG.out (HC.out.ext ((H.trans he).trans (by exact (show Sees wr _ by assumption).2.2)))).mono ?_; rintro e w2 ⟨rfl, hE2⟩))
          go_wp2
          refine ⟨⟨k + 1, by omega, by go_num, by show _ = _; rw [hn.out, hst.out, if_neg (by simp [hin]), if_neg (by unfold blk; simp [hb])], he.trans (show Sees wr _ by assumption).2.2⟩, by simp [intOf]; omega⟩
        · go_wp2
          go_region_held3 (fun w' => Sees wr w') ((repeat (first | exact Sees.refl _ | assumption | apply Sees.drew | apply Sees.alloc | (refine Sees.ext ?_ (by assumption))))) (first | (go_at_call 58; refine (Cell_any g (pt l k) _ _).mono ?_; rintro e w1 ⟨rfl, hE⟩))
          go_wp2
          go_region_held3 (fun w' => Sees wr w') ((repeat (first | exact Sees.refl _ | assumption | apply Sees.drew | apply Sees.alloc | (refine Sees.ext ?_ (by assumption))))) (first | (go_at_call 59; refine (Has_any g.bl (pt l k) ga gc _ HG.out (HC.out.ext ((H.trans he).trans (by exact (show Sees wr _ by assumption).2.2)))).mono ?_; rintro e w2 ⟨rfl, hE2⟩))
          go_wp2
          go_ret
          exact ⟨ret_int (by rw [hn.out, hst.out, if_neg (by simp [hin]), if_pos (by unfold blk; exact hb)]), (H.trans he).trans (show Sees wr _ by assumption).2.2⟩
    · go_wp2
      go_ret
      exact ⟨ret_int (by rw [hn.out, List.drop_eq_nil_of_le (by omega)]; rfl), H.trans he⟩
end Go.Proofs.Ytfigooilhnahfaa
