/- The law TubingRoutes: its walk. -/
import Derived.Test.YtfigooilhnahfaaRouteQ
import Derived.Test.YtfigooilhnahfaaSame
import Derived.Test.YtfigooilhnahfaaAwake
namespace Go.Proofs.Ytfigooilhnahfaa
open Go.RowKit

theorem routeV_len {g : Gr} {p q : Pt} : (routeV g p q).length ≤ maxLen := by
  unfold routeV routeL maxLen
  split
  · simp
  · rename_i h1
    split
    · simp
    · obtain ⟨hr, ho⟩ := given_ok (by simpa using h1)
      have := (dst_bd hr (opn_inside (ho q (by simp))) p).2
      unfold way
      simp [wayGo_len]
      omega

set_option maxHeartbeats 4000000 in
set_option maxRecDepth 100000 in
theorem TubingRoutes_any (g : Gr) (p q : Pt) (ga : Option Addr) (gc : Nat) (w : World) (hg : g.bl.length ≤ maxLen) (hc : Cells2 w ga g.bl) :
    Calls Try.prog 6 #[.agg #[.int .i64 g.rows, .int .i64 g.cols, .slice ga g.bl.length gc], .agg #[.int .i64 p.1, .int .i64 p.2], .agg #[.int .i64 q.1, .int .i64 q.2]] w fun e w' => e = .returned (.bool true) ∧ Ext w w' := by
  have HC : Hid (Cells2 w ga g.bl) := hc
  have HG := Lib.hid hg
  clear hc hg
  have E0 : Ext w ((( (( ((w).alloc (.cells #[.int .i64 g.rows, .int .i64 g.cols, .slice ga g.bl.length gc] 24))).alloc (.cells #[.int .i64 p.1, .int .i64 p.2] 26))).alloc (.cells #[.int .i64 q.1, .int .i64 q.2] 26))) := (((Ext.refl _).alloc _).alloc _).alloc _
  have a1 : ((( (( ((w).alloc (.cells #[.int .i64 g.rows, .int .i64 g.cols, .slice ga g.bl.length gc] 24))).alloc (.cells #[.int .i64 p.1, .int .i64 p.2] 26))).alloc (.cells #[.int .i64 q.1, .int .i64 q.2] 26))).cell? ⟨w.heap.size, 0, none⟩ = some (.int .i64 g.rows) := by go_simp
  have a2 : ((( (( ((w).alloc (.cells #[.int .i64 g.rows, .int .i64 g.cols, .slice ga g.bl.length gc] 24))).alloc (.cells #[.int .i64 p.1, .int .i64 p.2] 26))).alloc (.cells #[.int .i64 q.1, .int .i64 q.2] 26))).cell? ⟨w.heap.size, 1, none⟩ = some (.int .i64 g.cols) := by go_simp
  have a3 : ((( (( ((w).alloc (.cells #[.int .i64 g.rows, .int .i64 g.cols, .slice ga g.bl.length gc] 24))).alloc (.cells #[.int .i64 p.1, .int .i64 p.2] 26))).alloc (.cells #[.int .i64 q.1, .int .i64 q.2] 26))).cell? ⟨w.heap.size, 2, none⟩ = some (.slice ga g.bl.length gc) := by go_simp
  have a4 : ((( (( ((w).alloc (.cells #[.int .i64 g.rows, .int .i64 g.cols, .slice ga g.bl.length gc] 24))).alloc (.cells #[.int .i64 p.1, .int .i64 p.2] 26))).alloc (.cells #[.int .i64 q.1, .int .i64 q.2] 26))).cell? ⟨w.heap.size + 1, 0, none⟩ = some (.int .i64 p.1) := by go_simp
  have a5 : ((( (( ((w).alloc (.cells #[.int .i64 g.rows, .int .i64 g.cols, .slice ga g.bl.length gc] 24))).alloc (.cells #[.int .i64 p.1, .int .i64 p.2] 26))).alloc (.cells #[.int .i64 q.1, .int .i64 q.2] 26))).cell? ⟨w.heap.size + 1, 1, none⟩ = some (.int .i64 p.2) := by go_simp
  have a6 : ((( (( ((w).alloc (.cells #[.int .i64 g.rows, .int .i64 g.cols, .slice ga g.bl.length gc] 24))).alloc (.cells #[.int .i64 p.1, .int .i64 p.2] 26))).alloc (.cells #[.int .i64 q.1, .int .i64 q.2] 26))).cell? ⟨w.heap.size + 1 + 1, 0, none⟩ = some (.int .i64 q.1) := by go_simp
  have a7 : ((( (( ((w).alloc (.cells #[.int .i64 g.rows, .int .i64 g.cols, .slice ga g.bl.length gc] 24))).alloc (.cells #[.int .i64 p.1, .int .i64 p.2] 26))).alloc (.cells #[.int .i64 q.1, .int .i64 q.2] 26))).cell? ⟨w.heap.size + 1 + 1, 1, none⟩ = some (.int .i64 q.2) := by go_simp
  go_enter Try.func6, Try.ntmps6
  go_wp2_with fail
  refine (Few_any g ga gc _ HG.out (HC.out.ext E0)).mono ?_
  rintro e W1 ⟨rfl, hE⟩
  have E1 := E0.trans hE
  have a1 := hE.cell a1
  have a2 := hE.cell a2
  have a3 := hE.cell a3
  have a4 := hE.cell a4
  have a5 := hE.cell a5
  have a6 := hE.cell a6
  have a7 := hE.cell a7
  clear hE E0
  cases hf : fewB g
  · clear hf
    go_wp2_with fail
    refine (awake_any _).mono ?_
    rintro e W2 ⟨rfl, hE⟩
    go_wp2
    go_ret
    exact ⟨rfl, E1.trans hE⟩
  · clear hf
    have z1 := cell_lt a1
    have z2 := cell_lt a4
    have z3 := cell_lt a6
    dsimp only at z1 z2 z3
    go_wp2_with fail
    go_region_held3 (fun w' => Sees W1 w') ((repeat (first | exact Sees.refl _ | assumption | apply Sees.drew | apply Sees.alloc | (refine Sees.ext ?_ (by assumption))))) (first | (go_at_call 15; refine (sent_any g ga gc _).mono ?_; rintro e w' ⟨rfl, hE2⟩) | (go_at_call 27; refine (Length_any g p q ga gc _ HG.out (HC.out.ext (E1.trans (by exact (show Sees W1 _ by assumption).2.2)))).mono ?_; rintro e w' ⟨rfl, hE2⟩))
    have hS := (show Sees W1 _ by assumption).2.2
    have E2 := E1.trans hS
    have a1 := hS.cell a1
    have a2 := hS.cell a2
    have a3 := hS.cell a3
    have a4 := hS.cell a4
    have a5 := hS.cell a5
    have a6 := hS.cell a6
    have a7 := hS.cell a7
    clear hS E1 z1 z2 z3
    generalize w' = W2 at a1 a2 a3 a4 a5 a6 a7 E2 ⊢
    go_wp2_with fail
    refine (LengthR_any g p q ga gc _ HG.out (HC.out.ext E2)).mono ?_
    rintro e W3 ⟨rfl, hE⟩
    have E3 := E2.trans hE
    have a1 := hE.cell a1
    have a2 := hE.cell a2
    have a3 := hE.cell a3
    have a4 := hE.cell a4
    have a5 := hE.cell a5
    have a6 := hE.cell a6
    have a7 := hE.cell a7
    have z1 := cell_lt a1
    have z2 := cell_lt a4
    have z3 := cell_lt a6
    dsimp only at z1 z2 z3
    clear hE E2
    go_wp2_with fail
    go_region_held3 (fun w' => Sees W3 w') ((repeat (first | exact Sees.refl _ | assumption | apply Sees.drew | apply Sees.alloc | (refine Sees.ext ?_ (by assumption))))) (first | (go_at_call 15; refine (sent_any g ga gc _).mono ?_; rintro e w' ⟨rfl, hE2⟩) | (go_at_call 29; refine (Route_any g p q ga gc _ HG.out (HC.out.ext (E3.trans (by exact (show Sees W3 _ by assumption).2.2)))).mono ?_; rintro e w' ⟨v, rfl, hO, hE2⟩; obtain ⟨va, vc, rfl, hv, _⟩ := hO.reads))
    have hS := (show Sees W3 _ by assumption).2.2
    have E4 := E3.trans hS
    have a1 := hS.cell a1
    have a2 := hS.cell a2
    have a3 := hS.cell a3
    have a4 := hS.cell a4
    have a5 := hS.cell a5
    have a6 := hS.cell a6
    have a7 := hS.cell a7
    have HV : Hid (Cells2 w' va (routeV g p q)) := hv
    clear hS E3 z1 z2 z3 hO hv
    generalize w' = W4 at a1 a2 a3 a4 a5 a6 a7 E4 HV ⊢
    go_wp2_with fail
    refine (RouteR_any g p q ga gc _ HG.out (HC.out.ext E4)).mono ?_
    rintro e W5 ⟨v, rfl, hO, hE⟩
    obtain ⟨ua, uc, rfl, hu, _⟩ := hO.reads
    have E5 := E4.trans hE
    have HV := Lib.hid (HV.out.ext hE)
    have HU : Hid (Cells2 W5 ua (routeV g p q)) := hu
    clear hO hu hE E4 a1 a2 a3 a4 a5 a6 a7
    go_wp2_with fail
    refine (awake_any _).mono ?_
    rintro e W6 ⟨rfl, hE⟩
    have E6 := E5.trans hE
    have HV := Lib.hid (HV.out.ext hE)
    have HU := Lib.hid (HU.out.ext hE)
    clear hE E5
    go_wp2_with fail
    refine (Same_any (routeV g p q) (routeV g p q) _ _ _ _ _ routeV_len HV.out HU.out).mono ?_
    rintro e W7 ⟨rfl, hE⟩
    have E7 := E6.trans hE
    rw [decide_eq_true rfl]
    go_wp2
    go_ret
    exact ⟨rfl, E7⟩
end Go.Proofs.Ytfigooilhnahfaa
