/- The reference's at and Few. -/
import Derived.Test.YtfigooilhnahfaaFar
namespace Go.Proofs.Ytfigooilhnahfaa
open Go.RowKit

set_option maxHeartbeats 1000000 in
theorem atR_any (g : Gr) (D : Pt → Int) (s : Value) (a : Option Addr) (cap : Nat) (p : Pt) (w : World) (hr : Right g) (hp : inside g p = true) (hc : CellsI w a (tabL g D)) :
    Calls Try.prog 52 #[.agg #[.int .i64 g.rows, .int .i64 g.cols, s], .slice a (tabL g D).length cap, .agg #[.int .i64 p.1, .int .i64 p.2]] w fun e w' => e = .returned (.int .i64 (D p)) ∧ Ext w w' := by
  obtain ⟨x, k1, k2, k3⟩ := kxF hr hp
  have hk : kx g p < (tabL g D).length := by rw [tabL_len]; exact k3
  obtain ⟨b, off, rfl, h1⟩ := hc (kx g p) hk
  rw [tabL_get k3, cellAt_kx hp] at h1
  generalize kx g p = k at k2 hk h1
  generalize (tabL g D).length = n at hk
  have hk' : (k : Int) < (n : Int) := by omega
  have E0 : Ext w ((w.alloc (.cells #[.int .i64 g.rows, .int .i64 g.cols, s] 24)).alloc (.cells #[.int .i64 p.1, .int .i64 p.2] 26)) := ((Ext.refl _).alloc _).alloc _
  have zb := cell_lt h1
  dsimp only at zb
  clear hc hr hp k3
  go_enter Try.func52, Try.ntmps52
  go_wp2
  go_ret
  exact ⟨rfl, E0⟩

def fewB (g : Gr) : Bool := decide (g.bl.length ≤ 512) && ((decide (g.rows ≤ 7) && decide (g.cols ≤ 7)) || decide (chk g ≠ 0))
set_option maxHeartbeats 1000000 in
theorem Few_any (g : Gr) (ga : Option Addr) (gc : Nat) (w : World) (hg : g.bl.length ≤ maxLen) (hc : Cells2 w ga g.bl) :
    Calls Try.prog 12 #[.agg #[.int .i64 g.rows, .int .i64 g.cols, .slice ga g.bl.length gc]] w fun e w' => e = .returned (.bool (fewB g)) ∧ Ext w w' := by
  have HC : Hid (Cells2 w ga g.bl) := hc
  have HG := Lib.hid hg
  clear hc hg
  have E0 : Ext w (((w).alloc (.cells #[.int .i64 g.rows, .int .i64 g.cols, .slice ga g.bl.length gc] 24))) := (Ext.refl _).alloc _
  by_cases h1 : g.bl.length ≤ 512
  · have h1' : (g.bl.length : Int) ≤ 512 := by omega
    by_cases h2 : g.rows ≤ 7 ∧ g.cols ≤ 7
    · obtain ⟨h2, h3⟩ := h2
      have hb : Hid (fewB g = true) := by show _ = _; unfold fewB; simp [h1, h2, h3]
      clear h1
      go_enter Try.func12, Try.ntmps12
      go_wp2
      go_ret
      exact ⟨ret_bool hb.out.symm, E0⟩
    · have hb : Hid (fewB g = decide (chk g ≠ 0)) := by
        show _ = _
        unfold fewB
        have : (decide (g.rows ≤ 7) && decide (g.cols ≤ 7)) = false := by simp; omega
        rw [this]; simp [h1]
      have H1 := Lib.hid h1
      clear h1
      have fin : ∀ b : Bool, (g.rows ≤ 7 → ¬ g.cols ≤ 7) → Calls Try.prog 12 #[.agg #[.int .i64 g.rows, .int .i64 g.cols, .slice ga g.bl.length gc]] w fun e w' => e = .returned (.bool (fewB g)) ∧ Ext w w' := fun _ hh => by
        by_cases h3 : g.rows ≤ 7
        · have h4 := hh h3
          clear h2 hh
          go_enter Try.func12, Try.ntmps12
          go_wp2_with fail
          refine (CheckR_any g ga gc _ HG.out (HC.out.ext E0)).mono ?_
          rintro e w1 ⟨rfl, hE⟩
          go_wp2
          go_ret
          exact ⟨ret_bool (by rw [hb.out]; cases h5 : decide (chk g ≠ 0) <;> simp_all), E0.trans hE⟩
        · clear h2 hh
          go_enter Try.func12, Try.ntmps12
          go_wp2_with fail
          refine (CheckR_any g ga gc _ HG.out (HC.out.ext E0)).mono ?_
          rintro e w1 ⟨rfl, hE⟩
          go_wp2
          go_ret
          exact ⟨ret_bool (by rw [hb.out]; cases h5 : decide (chk g ≠ 0) <;> simp_all), E0.trans hE⟩
      exact fin true (fun h3 h4 => h2 ⟨h3, h4⟩)
  · have h1' : ¬ (g.bl.length : Int) ≤ 512 := by omega
    have hb : Hid (fewB g = false) := by show _ = _; unfold fewB; simp [h1]
    clear h1
    go_enter Try.func12, Try.ntmps12
    go_wp2
    go_ret
    exact ⟨ret_bool hb.out.symm, E0⟩
end Go.Proofs.Ytfigooilhnahfaa
