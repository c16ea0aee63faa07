/- The law TubingMeets: its walk. -/
import Derived.Test.YtfigooilhnahfaaMeetR
import Derived.Test.YtfigooilhnahfaaAwake
namespace Go.Proofs.Ytfigooilhnahfaa
open Go.RowKit

set_option maxHeartbeats 4000000 in
set_option maxRecDepth 100000 in
theorem TubingMeets_any (g : Gr) (p q r : Pt) (ga : Option Addr) (gc : Nat) (w : World) (hg : g.bl.length ≤ maxLen) (hc : Cells2 w ga g.bl) :
    Calls Try.prog 3 #[.agg #[.int .i64 g.rows, .int .i64 g.cols, .slice ga g.bl.length gc], .agg #[.int .i64 p.1, .int .i64 p.2, .int .i64 q.1, .int .i64 q.2, .int .i64 r.1, .int .i64 r.2]] w fun e w' => e = .returned (.bool true) ∧ Ext w w' := by
  have HC : Hid (Cells2 w ga g.bl) := hc
  have HG := Lib.hid hg
  clear hc hg
  obtain ⟨W0, hW0⟩ : ∃ W0, (((w).alloc (.cells #[.int .i64 g.rows, .int .i64 g.cols, .slice ga g.bl.length gc] 24))).alloc (.cells #[.int .i64 p.1, .int .i64 p.2, .int .i64 q.1, .int .i64 q.2, .int .i64 r.1, .int .i64 r.2] 27) = W0 := ⟨_, rfl⟩
  have E0 : Ext w W0 := by rw [← hW0]; exact ((Ext.refl _).alloc _).alloc _
  have a1 : W0.cell? ⟨w.heap.size, 0, none⟩ = some (.int .i64 g.rows) := by rw [← hW0]; clear hW0; go_simp
  have a2 : W0.cell? ⟨w.heap.size, 1, none⟩ = some (.int .i64 g.cols) := by rw [← hW0]; clear hW0; go_simp
  have a3 : W0.cell? ⟨w.heap.size, 2, none⟩ = some (.slice ga g.bl.length gc) := by rw [← hW0]; clear hW0; go_simp
  have p1 : W0.cell? ⟨w.heap.size + 1, 0, none⟩ = some (.int .i64 p.1) := by rw [← hW0]; clear hW0; go_simp
  have p2 : W0.cell? ⟨w.heap.size + 1, 1, none⟩ = some (.int .i64 p.2) := by rw [← hW0]; clear hW0; go_simp
  have p3 : W0.cell? ⟨w.heap.size + 1, 2, none⟩ = some (.int .i64 q.1) := by rw [← hW0]; clear hW0; go_simp
  have p4 : W0.cell? ⟨w.heap.size + 1, 3, none⟩ = some (.int .i64 q.2) := by rw [← hW0]; clear hW0; go_simp
  have p5 : W0.cell? ⟨w.heap.size + 1, 4, none⟩ = some (.int .i64 r.1) := by rw [← hW0]; clear hW0; go_simp
  have p6 : W0.cell? ⟨w.heap.size + 1, 5, none⟩ = some (.int .i64 r.2) := by rw [← hW0]; clear hW0; go_simp
  go_enter Try.func3, Try.ntmps3
  go_wp2_with fail
  clear hW0
  refine (Few_any g ga gc _ HG.out (HC.out.ext E0)).mono ?_
  rintro e W1 ⟨rfl, hE⟩
  have E1 := E0.trans hE
  have a1 := hE.cell a1
  have a2 := hE.cell a2
  have a3 := hE.cell a3
  have p1 := hE.cell p1
  have p2 := hE.cell p2
  have p3 := hE.cell p3
  have p4 := hE.cell p4
  have p5 := hE.cell p5
  have p6 := hE.cell p6
  clear hE E0
  cases hf : fewB g
  · clear hf
    go_wp2_with fail
    refine (awake_any _).mono ?_
    rintro e W2 ⟨rfl, hE⟩
    go_wp2
    go_ret
    exact ⟨rfl, E1.trans hE⟩
  · clear hf
    have z1 := cell_lt a1
    have z2 := cell_lt p1
    dsimp only at z1 z2
    go_wp2_with fail
    go_cut [5, 6, 7] (fun x n e wx => ∃ pb, x = .pointer (some ⟨pb, 0, none⟩) ∧ n = .int .i64 (meetN g p q r) ∧ e = .int .i64 (meetE g p q r) ∧ wx.cell? ⟨pb, 0, none⟩ = some (.int .i64 (meetP g p q r).1) ∧ wx.cell? ⟨pb, 1, none⟩ = some (.int .i64 (meetP g p q r).2) ∧ Ext W1 wx)
    case first =>
      go_region_held3 (fun w' => Sees W1 w') ((repeat (first | exact Sees.refl _ | assumption | apply Sees.store | apply Sees.drew | apply Sees.alloc | (refine Sees.ext ?_ (by assumption))))) (first | (go_at_call 15; refine (sent_any g ga gc _).mono ?_; rintro e w' ⟨rfl, hE2⟩; (first | (have kN := (New2.made _ _ _ _).ext hE2; obtain ⟨k1, k2, k3, k4⟩ := kN) | (have kN := (New2.made _ _ _ _).drew.ext hE2; obtain ⟨k1, k2, k3, k4⟩ := kN) | (have kN := (New2.mk (by assumption) (by assumption) (by assumption) (by assumption)).ext hE2; obtain ⟨k1, k2, k3, k4⟩ := kN) | skip)) | (go_at_call 14; refine (Meet_any g p q r ga gc _ HG.out (HC.out.ext (E1.trans (by exact (show Sees W1 _ by assumption).2.2)))).mono ?_; rintro e w' ⟨rfl, hE2⟩; (first | (have kN := (New2.made _ _ _ _).ext hE2; obtain ⟨k1, k2, k3, k4⟩ := kN) | (have kN := (New2.made _ _ _ _).drew.ext hE2; obtain ⟨k1, k2, k3, k4⟩ := kN) | (have kN := (New2.mk (by assumption) (by assumption) (by assumption) (by assumption)).ext hE2; obtain ⟨k1, k2, k3, k4⟩ := kN) | skip)))
      all_goals (go_wp2_with fail; go_meet)
      all_goals exact ⟨_, rfl, rfl, rfl, by go_simp, by go_simp, (show Sees W1 _ by assumption).2.2⟩
    case rest =>
      obtain ⟨pb, rfl, rfl, rfl, k1, k2, EX⟩ := hcut
      have E2 := E1.trans EX
      have a1 := EX.cell a1
      have a2 := EX.cell a2
      have a3 := EX.cell a3
      have p1 := EX.cell p1
      have p2 := EX.cell p2
      have p3 := EX.cell p3
      have p4 := EX.cell p4
      have p5 := EX.cell p5
      have p6 := EX.cell p6
      clear EX E1 z1 z2
      generalize wc = W2 at a1 a2 a3 p1 p2 p3 p4 p5 p6 k1 k2 E2 ⊢
      go_wp2_with fail
      refine (MeetR_any g p q r ga gc _ HG.out (HC.out.ext E2)).mono ?_
      rintro e W3 ⟨rfl, hE⟩
      have E3 := E2.trans hE
      have k1 := hE.cell k1
      have k2 := hE.cell k2
      have z3 := cell_lt k1
      dsimp only at z3
      clear hE E2 a1 a2 a3 p1 p2 p3 p4 p5 p6
      go_wp2_with fail
      have E4 : Ext W3 (W3.alloc (.cells #[.int .i64 (meetP g p q r).1, .int .i64 (meetP g p q r).2] 26)) := (Ext.refl _).alloc _
      have m1 : (W3.alloc (.cells #[.int .i64 (meetP g p q r).1, .int .i64 (meetP g p q r).2] 26)).cell? ⟨W3.heap.size, 0, none⟩ = some (.int .i64 (meetP g p q r).1) := by go_simp
      have m2 : (W3.alloc (.cells #[.int .i64 (meetP g p q r).1, .int .i64 (meetP g p q r).2] 26)).cell? ⟨W3.heap.size, 1, none⟩ = some (.int .i64 (meetP g p q r).2) := by go_simp
      have k1 := E4.cell k1
      have k2 := E4.cell k2
      refine (awake_any _).mono ?_
      rintro e W5 ⟨rfl, hE⟩
      have E5 := (E3.trans E4).trans hE
      have k1 := hE.cell k1
      have k2 := hE.cell k2
      have m1 := hE.cell m1
      have m2 := hE.cell m2
      clear hE E4 E3
      go_wp2
      go_ret
      exact ⟨rfl, E5⟩
end Go.Proofs.Ytfigooilhnahfaa
