/- The reference's Length. -/
import Derived.Test.YtfigooilhnahfaaMeetR
namespace Go.Proofs.Ytfigooilhnahfaa
open Go.RowKit

set_option maxHeartbeats 4000000 in
set_option maxRecDepth 100000 in
theorem LengthR_any (g : Gr) (p q : Pt) (ga : Option Addr) (gc : Nat) (w : World) (hg : g.bl.length ≤ maxLen) (hc : Cells2 w ga g.bl) :
    Calls Try.prog 28 #[.agg #[.int .i64 g.rows, .int .i64 g.cols, .slice ga g.bl.length gc], .agg #[.int .i64 p.1, .int .i64 p.2], .agg #[.int .i64 q.1, .int .i64 q.2]] w fun e w' => e = .returned (.tuple #[.int .i64 (lenN g p q), .int .i64 (lenE g p q)]) ∧ Ext w w' := by
  have HC : Hid (Cells2 w ga g.bl) := hc
  have HG := Lib.hid hg
  clear hc hg
  by_cases h0 : givenErr g [p, q] = 0
  · obtain ⟨hr, ho⟩ := given_ok h0
    have HR := Lib.hid hr
    have HQ : Hid (inside g q = true) := opn_inside (ho q (by simp))
    have HP : Hid (inside g p = true) := opn_inside (ho p (by simp))
    have HD : Hid (dst g p q = dst g q p) := dst_symm hr (ho p (by simp)) (ho q (by simp))
    obtain ⟨n, hn⟩ : ∃ n, n = g.rows.toNat * g.cols.toNat := ⟨_, rfl⟩
    have HNN := Lib.hid hn
    clear hn
    have H0 := Lib.hid h0
    clear hr ho h0
    have main : ∀ (neg : Bool), Hid (decide (dst g q p < 0) = neg) → Calls Try.prog 28 #[.agg #[.int .i64 g.rows, .int .i64 g.cols, .slice ga g.bl.length gc], .agg #[.int .i64 p.1, .int .i64 p.2], .agg #[.int .i64 q.1, .int .i64 q.2]] w fun e w' => e = .returned (.tuple #[.int .i64 (if neg then 0 else dst g q p), .int .i64 (if neg then 6 else 0)]) ∧ Ext w w' := by
      intro neg hneg
      have E0 : Ext w ((( (( ((w).alloc (.cells #[.int .i64 g.rows, .int .i64 g.cols, .slice ga g.bl.length gc] 24))).alloc (.cells #[.int .i64 p.1, .int .i64 p.2] 26))).alloc (.cells #[.int .i64 q.1, .int .i64 q.2] 26))) := (((Ext.refl _).alloc _).alloc _).alloc _
      have a1 : ((( (( ((w).alloc (.cells #[.int .i64 g.rows, .int .i64 g.cols, .slice ga g.bl.length gc] 24))).alloc (.cells #[.int .i64 p.1, .int .i64 p.2] 26))).alloc (.cells #[.int .i64 q.1, .int .i64 q.2] 26))).cell? ⟨w.heap.size, 0, none⟩ = some (.int .i64 g.rows) := by go_simp
      have a2 : ((( (( ((w).alloc (.cells #[.int .i64 g.rows, .int .i64 g.cols, .slice ga g.bl.length gc] 24))).alloc (.cells #[.int .i64 p.1, .int .i64 p.2] 26))).alloc (.cells #[.int .i64 q.1, .int .i64 q.2] 26))).cell? ⟨w.heap.size, 1, none⟩ = some (.int .i64 g.cols) := by go_simp
      have a3 : ((( (( ((w).alloc (.cells #[.int .i64 g.rows, .int .i64 g.cols, .slice ga g.bl.length gc] 24))).alloc (.cells #[.int .i64 p.1, .int .i64 p.2] 26))).alloc (.cells #[.int .i64 q.1, .int .i64 q.2] 26))).cell? ⟨w.heap.size, 2, none⟩ = some (.slice ga g.bl.length gc) := by go_simp
      have a4 : ((( (( ((w).alloc (.cells #[.int .i64 g.rows, .int .i64 g.cols, .slice ga g.bl.length gc] 24))).alloc (.cells #[.int .i64 p.1, .int .i64 p.2] 26))).alloc (.cells #[.int .i64 q.1, .int .i64 q.2] 26))).cell? ⟨w.heap.size + 1, 0, none⟩ = some (.int .i64 p.1) := by go_simp
      have a5 : ((( (( ((w).alloc (.cells #[.int .i64 g.rows, .int .i64 g.cols, .slice ga g.bl.length gc] 24))).alloc (.cells #[.int .i64 p.1, .int .i64 p.2] 26))).alloc (.cells #[.int .i64 q.1, .int .i64 q.2] 26))).cell? ⟨w.heap.size + 1, 1, none⟩ = some (.int .i64 p.2) := by go_simp
      have a6 : ((( (( ((w).alloc (.cells #[.int .i64 g.rows, .int .i64 g.cols, .slice ga g.bl.length gc] 24))).alloc (.cells #[.int .i64 p.1, .int .i64 p.2] 26))).alloc (.cells #[.int .i64 q.1, .int .i64 q.2] 26))).cell? ⟨w.heap.size + 1 + 1, 0, none⟩ = some (.int .i64 q.1) := by go_simp
      have a7 : ((( (( ((w).alloc (.cells #[.int .i64 g.rows, .int .i64 g.cols, .slice ga g.bl.length gc] 24))).alloc (.cells #[.int .i64 p.1, .int .i64 p.2] 26))).alloc (.cells #[.int .i64 q.1, .int .i64 q.2] 26))).cell? ⟨w.heap.size + 1 + 1, 1, none⟩ = some (.int .i64 q.2) := by go_simp
      go_enter Try.func28, Try.ntmps28
      go_wp2_with fail
      refine (givenR_any g [p, q] ga gc _ _ _ HG.out (HC.out.ext (E0.alloc _)) (by simp [maxLen]) (cells2_two (by go_simp) (by go_simp) (by go_simp) (by go_simp))).mono ?_
      rintro e w1 ⟨rfl, hE⟩
      rw [H0.out]
      have E1 : Ext ((( (( ((w).alloc (.cells #[.int .i64 g.rows, .int .i64 g.cols, .slice ga g.bl.length gc] 24))).alloc (.cells #[.int .i64 p.1, .int .i64 p.2] 26))).alloc (.cells #[.int .i64 q.1, .int .i64 q.2] 26))) w1 := ((Ext.refl _).alloc _).trans hE
      have b1 := E1.cell a1
      have b2 := E1.cell a2
      have b3 := E1.cell a3
      have b4 := E1.cell a4
      have b5 := E1.cell a5
      have b6 := E1.cell a6
      have b7 := E1.cell a7
      have E2 : Ext w w1 := E0.trans E1
      have z1 : w.heap.size < w1.heap.size := cell_lt b1
      have z2 : w.heap.size + 1 < w1.heap.size := cell_lt b4
      have z3 : w.heap.size + 1 + 1 < w1.heap.size := cell_lt b6
      clear hE E1 E0 a1 a2 a3 a4 a5 a6 a7
      go_wp2_with fail
      go_region_held3 (fun w' => Sees w1 w') ((repeat (first | exact Sees.refl _ | assumption | apply Sees.drew | apply Sees.alloc | (refine Sees.ext ?_ (by assumption))))) (first | (go_at_call 52; refine (atR_any2 g (dst g p) _ fa fc n q _ HNN.out HR.out HQ.out hI).mono ?_; rintro e w' ⟨rfl, hE2⟩) | (go_at_call 51; refine (Far_any2 g p ga gc n _ HNN.out HR.out HP.out (HC.out.ext (E2.trans (by exact (show Sees w1 _ by assumption).2.2)))).mono ?_; rintro e w' ⟨fa, fc, rfl, hI, hE2⟩))
      have hS := (show Sees w1 _ by assumption).2.2
      cases neg
      · have hd : ¬ dst g p q < 0 := by rw [HD.out]; simpa using hneg.out
        go_wp2
        go_ret2
        exact ⟨by rw [HD.out]; rfl, E2.trans hS⟩
      · have hd : dst g p q < 0 := by rw [HD.out]; simpa using hneg.out
        go_wp2
        go_ret2
        exact ⟨rfl, E2.trans hS⟩
    obtain ⟨e1, e2⟩ := len_ok H0.out (neg := decide (dst g q p < 0)) rfl
    rw [e1, e2]
    exact main _ rfl
  · have hn : Hid (lenN g p q = 0 ∧ lenE g p q = givenErr g [p, q]) := by
      show _ ∧ _
      unfold lenN lenE
      rw [if_pos h0, if_pos h0]
      exact ⟨rfl, rfl⟩
    have hb : (givenErr g [p, q] != 0) = true := by simp [h0]
    have hb2 : (givenErr g [p, q] == 0) = false := by simp [h0]
    clear h0
    go_enter Try.func28, Try.ntmps28
    go_wp2_with fail
    have E0 : Ext w (((( (( ((w).alloc (.cells #[.int .i64 g.rows, .int .i64 g.cols, .slice ga g.bl.length gc] 24))).alloc (.cells #[.int .i64 p.1, .int .i64 p.2] 26))).alloc (.cells #[.int .i64 q.1, .int .i64 q.2] 26))).alloc (.cells #[.int .i64 p.1, .int .i64 p.2, .int .i64 q.1, .int .i64 q.2] 26)) := ((((Ext.refl _).alloc _).alloc _).alloc _).alloc _
    refine (givenR_any g [p, q] ga gc _ _ _ HG.out (HC.out.ext E0) (by simp [maxLen]) (cells2_two (by go_simp) (by go_simp) (by go_simp) (by go_simp))).mono ?_
    rintro e w1 ⟨rfl, hE⟩
    go_wp2
    go_ret2
    rw [hn.out.1, hn.out.2]
    exact ⟨rfl, E0.trans hE⟩
end Go.Proofs.Ytfigooilhnahfaa
