/- The reference's Route. -/
import Derived.Test.YtfigooilhnahfaaWayR
import Derived.Test.YtfigooilhnahfaaRouteA
namespace Go.Proofs.Ytfigooilhnahfaa
open Go.RowKit

set_option maxHeartbeats 4000000 in
set_option maxRecDepth 100000 in
theorem RouteR_any (g : Gr) (p q : Pt) (ga : Option Addr) (gc : Nat) (w : World) (hg : g.bl.length ≤ maxLen) (hc : Cells2 w ga g.bl) :
    Calls Try.prog 30 #[.agg #[.int .i64 g.rows, .int .i64 g.cols, .slice ga g.bl.length gc], .agg #[.int .i64 p.1, .int .i64 p.2], .agg #[.int .i64 q.1, .int .i64 q.2]] w fun e w' => RouteAPost g p q w e w' := by
  have HC : Hid (Cells2 w ga g.bl) := hc
  have HG := Lib.hid hg
  clear hc hg
  have E0 : Ext w ((( (( ((w).alloc (.cells #[.int .i64 g.rows, .int .i64 g.cols, .slice ga g.bl.length gc] 24))).alloc (.cells #[.int .i64 p.1, .int .i64 p.2] 26))).alloc (.cells #[.int .i64 q.1, .int .i64 q.2] 26))) := (((Ext.refl _).alloc _).alloc _).alloc _
  have a1 : ((( (( ((w).alloc (.cells #[.int .i64 g.rows, .int .i64 g.cols, .slice ga g.bl.length gc] 24))).alloc (.cells #[.int .i64 p.1, .int .i64 p.2] 26))).alloc (.cells #[.int .i64 q.1, .int .i64 q.2] 26))).cell? ⟨w.heap.size, 0, none⟩ = some (.int .i64 g.rows) := by go_simp
  have a2 : ((( (( ((w).alloc (.cells #[.int .i64 g.rows, .int .i64 g.cols, .slice ga g.bl.length gc] 24))).alloc (.cells #[.int .i64 p.1, .int .i64 p.2] 26))).alloc (.cells #[.int .i64 q.1, .int .i64 q.2] 26))).cell? ⟨w.heap.size, 1, none⟩ = some (.int .i64 g.cols) := by go_simp
  have a3 : ((( (( ((w).alloc (.cells #[.int .i64 g.rows, .int .i64 g.cols, .slice ga g.bl.length gc] 24))).alloc (.cells #[.int .i64 p.1, .int .i64 p.2] 26))).alloc (.cells #[.int .i64 q.1, .int .i64 q.2] 26))).cell? ⟨w.heap.size, 2, none⟩ = some (.slice ga g.bl.length gc) := by go_simp
  have a4 : ((( (( ((w).alloc (.cells #[.int .i64 g.rows, .int .i64 g.cols, .slice ga g.bl.length gc] 24))).alloc (.cells #[.int .i64 p.1, .int .i64 p.2] 26))).alloc (.cells #[.int .i64 q.1, .int .i64 q.2] 26))).cell? ⟨w.heap.size + 1, 0, none⟩ = some (.int .i64 p.1) := by go_simp
  have a5 : ((( (( ((w).alloc (.cells #[.int .i64 g.rows, .int .i64 g.cols, .slice ga g.bl.length gc] 24))).alloc (.cells #[.int .i64 p.1, .int .i64 p.2] 26))).alloc (.cells #[.int .i64 q.1, .int .i64 q.2] 26))).cell? ⟨w.heap.size + 1, 1, none⟩ = some (.int .i64 p.2) := by go_simp
  have a6 : ((( (( ((w).alloc (.cells #[.int .i64 g.rows, .int .i64 g.cols, .slice ga g.bl.length gc] 24))).alloc (.cells #[.int .i64 p.1, .int .i64 p.2] 26))).alloc (.cells #[.int .i64 q.1, .int .i64 q.2] 26))).cell? ⟨w.heap.size + 1 + 1, 0, none⟩ = some (.int .i64 q.1) := by go_simp
  have a7 : ((( (( ((w).alloc (.cells #[.int .i64 g.rows, .int .i64 g.cols, .slice ga g.bl.length gc] 24))).alloc (.cells #[.int .i64 p.1, .int .i64 p.2] 26))).alloc (.cells #[.int .i64 q.1, .int .i64 q.2] 26))).cell? ⟨w.heap.size + 1 + 1, 1, none⟩ = some (.int .i64 q.2) := by go_simp
  obtain ⟨ev, hev⟩ : ∃ ev, ev = lenE g p q := ⟨_, rfl⟩
  obtain ⟨nv, hnv⟩ : ∃ nv, nv = lenN g p q := ⟨_, rfl⟩
  have HEV := Lib.hid hev
  go_enter Try.func30, Try.ntmps30
  go_wp2_with fail
  refine (LengthR_any g p q ga gc _ HG.out (HC.out.ext E0)).mono ?_
  rintro e w1 ⟨rfl, hE⟩
  rw [← hev, ← hnv]
  clear hev hnv
  have b1 := hE.cell a1
  have b2 := hE.cell a2
  have b3 := hE.cell a3
  have b4 := hE.cell a4
  have b5 := hE.cell a5
  have b6 := hE.cell a6
  have b7 := hE.cell a7
  have EW := E0.trans hE
  clear hE E0 a1 a2 a3 a4 a5 a6 a7
  by_cases h0 : ev = 0
  · have HX : Hid (givenErr g [p, q] = 0 ∧ ¬ dst g q p < 0) := by
      show _ ∧ _
      have h := HEV.out
      rw [h0] at h
      unfold lenE at h
      by_cases h1 : givenErr g [p, q] = 0
      · refine ⟨h1, fun h2 => ?_⟩
        rw [if_neg (by simp [h1]), if_pos h2] at h
        cases h
      · rw [if_pos h1] at h
        exact absurd h.symm h1
    obtain ⟨hr, ho⟩ := given_ok HX.out.1
    have HR := Lib.hid hr
    have HQ : Hid (opn g q = true) := ho q (by simp)
    have HP : Hid (opn g p = true) := ho p (by simp)
    have HV : Hid (routeV g p q = way g p q) := by
      show _ = _
      unfold routeV routeL
      rw [if_neg (by simp [HX.out.1]), if_neg HX.out.2]
    have h2 : (0 : Int) ≤ dst g q p := by have := HX.out.2; omega
    have H2 := Lib.hid h2
    clear hr ho h2
    subst h0
    go_wp2_with fail
    refine (WayR_any g p q ga gc _ HR.out HP.out HQ.out H2.out (HC.out.ext EW)).mono ?_
    rintro e w2 ⟨v, rfl, hO, hE⟩
    have HO := Lib.hid hO
    clear hO
    go_wp2
    go_ret2
    refine ⟨v, by rw [← HEV.out]; rfl, by rw [HV.out]; exact HO.out, EW.trans hE⟩
  · have HV : Hid (routeV g p q = []) := by
      show _ = _
      unfold routeV routeL
      split
      · rfl
      · rename_i h1
        rw [if_pos ?_]
        have h := HEV.out
        unfold lenE at h
        rw [if_neg h1] at h
        by_cases h2 : dst g q p < 0
        · exact h2
        · rw [if_neg h2] at h
          exact absurd h h0
    have hb : (ev != 0) = true := by simp [h0]
    have hb2 : (ev == 0) = false := by simp [h0]
    clear h0
    go_wp2
    go_ret2
    exact ⟨.slice none 0 0, by rw [← HEV.out]; rfl, by rw [HV.out]; exact Owns.nil _, EW⟩
end Go.Proofs.Ytfigooilhnahfaa
