/- Route. -/
import Derived.Test.YtfigooilhnahfaaRoute
namespace Go.Proofs.Ytfigooilhnahfaa
open Go.RowKit

def routeV (g : Gr) (p q : Pt) : List Pt := if givenErr g [p, q] ≠ 0 then [] else routeL g p q
def RouteAPost (g : Gr) (p q : Pt) (w : World) (e : Ending) (w' : World) : Prop :=
  ∃ v, e = .returned (.tuple #[v, .int .i64 (lenE g p q)]) ∧ Owns w' v (routeV g p q) ∧ Ext w w'

set_option maxHeartbeats 1000000 in
theorem Route_any (g : Gr) (p q : Pt) (ga : Option Addr) (gc : Nat) (w : World) (hg : g.bl.length ≤ maxLen) (hc : Cells2 w ga g.bl) :
    Calls Try.prog 29 #[.agg #[.int .i64 g.rows, .int .i64 g.cols, .slice ga g.bl.length gc], .agg #[.int .i64 p.1, .int .i64 p.2], .agg #[.int .i64 q.1, .int .i64 q.2]] w fun e w' => RouteAPost g p q w e w' := by
  have HC : Hid (Cells2 w ga g.bl) := hc
  have HG := Lib.hid hg
  clear hc hg
  have E0 : Ext w ((( (( ((w).alloc (.cells #[.int .i64 g.rows, .int .i64 g.cols, .slice ga g.bl.length gc] 33))).alloc (.cells #[.int .i64 p.1, .int .i64 p.2] 26))).alloc (.cells #[.int .i64 q.1, .int .i64 q.2] 26))) := (((Ext.refl _).alloc _).alloc _).alloc _
  have a1 : ((( (( ((w).alloc (.cells #[.int .i64 g.rows, .int .i64 g.cols, .slice ga g.bl.length gc] 33))).alloc (.cells #[.int .i64 p.1, .int .i64 p.2] 26))).alloc (.cells #[.int .i64 q.1, .int .i64 q.2] 26))).cell? ⟨w.heap.size, 0, none⟩ = some (.int .i64 g.rows) := by go_simp
  have a2 : ((( (( ((w).alloc (.cells #[.int .i64 g.rows, .int .i64 g.cols, .slice ga g.bl.length gc] 33))).alloc (.cells #[.int .i64 p.1, .int .i64 p.2] 26))).alloc (.cells #[.int .i64 q.1, .int .i64 q.2] 26))).cell? ⟨w.heap.size, 1, none⟩ = some (.int .i64 g.cols) := by go_simp
  have a3 : ((( (( ((w).alloc (.cells #[.int .i64 g.rows, .int .i64 g.cols, .slice ga g.bl.length gc] 33))).alloc (.cells #[.int .i64 p.1, .int .i64 p.2] 26))).alloc (.cells #[.int .i64 q.1, .int .i64 q.2] 26))).cell? ⟨w.heap.size, 2, none⟩ = some (.slice ga g.bl.length gc) := by go_simp
  have a4 : ((( (( ((w).alloc (.cells #[.int .i64 g.rows, .int .i64 g.cols, .slice ga g.bl.length gc] 33))).alloc (.cells #[.int .i64 p.1, .int .i64 p.2] 26))).alloc (.cells #[.int .i64 q.1, .int .i64 q.2] 26))).cell? ⟨w.heap.size + 1, 0, none⟩ = some (.int .i64 p.1) := by go_simp
  have a5 : ((( (( ((w).alloc (.cells #[.int .i64 g.rows, .int .i64 g.cols, .slice ga g.bl.length gc] 33))).alloc (.cells #[.int .i64 p.1, .int .i64 p.2] 26))).alloc (.cells #[.int .i64 q.1, .int .i64 q.2] 26))).cell? ⟨w.heap.size + 1, 1, none⟩ = some (.int .i64 p.2) := by go_simp
  have a6 : ((( (( ((w).alloc (.cells #[.int .i64 g.rows, .int .i64 g.cols, .slice ga g.bl.length gc] 33))).alloc (.cells #[.int .i64 p.1, .int .i64 p.2] 26))).alloc (.cells #[.int .i64 q.1, .int .i64 q.2] 26))).cell? ⟨w.heap.size + 1 + 1, 0, none⟩ = some (.int .i64 q.1) := by go_simp
  have a7 : ((( (( ((w).alloc (.cells #[.int .i64 g.rows, .int .i64 g.cols, .slice ga g.bl.length gc] 33))).alloc (.cells #[.int .i64 p.1, .int .i64 p.2] 26))).alloc (.cells #[.int .i64 q.1, .int .i64 q.2] 26))).cell? ⟨w.heap.size + 1 + 1, 1, none⟩ = some (.int .i64 q.2) := by go_simp
  by_cases h0 : givenErr g [p, q] = 0
  · obtain ⟨hr, ho⟩ := given_ok h0
    have HR := Lib.hid hr
    have HQ : Hid (opn g q = true) := ho q (by simp)
    have HP : Hid (opn g p = true) := ho p (by simp)
    have hv : Hid (routeV g p q = routeL g p q ∧ lenE g p q = if dst g q p < 0 then 6 else 0) := by
      show _ ∧ _
      unfold routeV lenE
      rw [h0]
      exact ⟨rfl, rfl⟩
    have H0 := Lib.hid h0
    clear hr ho h0
    go_enter Try.func29, Try.ntmps29
    go_wp2_with fail
    refine (given_any g [p, q] ga gc _ _ _ HG.out (HC.out.ext (E0.alloc _)) (by simp [maxLen]) (cells2_two (by go_simp) (by go_simp) (by go_simp) (by go_simp))).mono ?_
    rintro e w1 ⟨rfl, hE⟩
    rw [H0.out]
    have E1 : Ext ((( (( ((w).alloc (.cells #[.int .i64 g.rows, .int .i64 g.cols, .slice ga g.bl.length gc] 33))).alloc (.cells #[.int .i64 p.1, .int .i64 p.2] 26))).alloc (.cells #[.int .i64 q.1, .int .i64 q.2] 26))) w1 := ((Ext.refl _).alloc _).trans hE
    have b1 := E1.cell a1
    have b2 := E1.cell a2
    have b3 := E1.cell a3
    have b4 := E1.cell a4
    have b5 := E1.cell a5
    have b6 := E1.cell a6
    have b7 := E1.cell a7
    have E2 : Ext w w1 := E0.trans E1
    clear hE E1 E0 a1 a2 a3 a4 a5 a6 a7
    go_wp2_with fail
    refine (route_any g p q ga gc _ HR.out HP.out HQ.out (HC.out.ext E2)).mono ?_
    rintro e w2 ⟨v, rfl, hO, hE⟩
    rw [← hv.out.2]
    have HO := Lib.hid hO
    clear hO
    go_wp2
    go_ret2
    exact ⟨v, rfl, by rw [hv.out.1]; exact HO.out, E2.trans hE⟩
  · have hn : Hid (routeV g p q = [] ∧ lenE g p q = givenErr g [p, q]) := by
      show _ ∧ _
      unfold routeV lenE
      rw [if_pos h0, if_pos h0]
      exact ⟨rfl, rfl⟩
    have hb : (givenErr g [p, q] != 0) = true := by simp [h0]
    have hb2 : (givenErr g [p, q] == 0) = false := by simp [h0]
    clear h0
    go_enter Try.func29, Try.ntmps29
    go_wp2_with fail
    refine (given_any g [p, q] ga gc _ _ _ HG.out (HC.out.ext (E0.alloc _)) (by simp [maxLen]) (cells2_two (by go_simp) (by go_simp) (by go_simp) (by go_simp))).mono ?_
    rintro e w1 ⟨rfl, hE⟩
    go_wp2
    go_ret2
    refine ⟨.slice none 0 0, ?_, by rw [hn.out.1]; exact Owns.nil _, (E0.alloc _).trans hE⟩
    have h2 := hn.out.2
    rw [h2]
    rfl
end Go.Proofs.Ytfigooilhnahfaa
