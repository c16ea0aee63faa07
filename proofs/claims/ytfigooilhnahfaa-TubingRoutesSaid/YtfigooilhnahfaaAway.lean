/- The difference of the rows and columns of two cells. -/
import Derived.Test.YtfigooilhnahfaaRouteA
namespace Go.Proofs.Ytfigooilhnahfaa
open Go.RowKit

def awayI (p q : Pt) : Int := max (p.1 - q.1) (q.1 - p.1) + max (p.2 - q.2) (q.2 - p.2)

theorem away_any (p q : Pt) (w : World) (hp : InG p) (hq : InG q) :
    Calls Try.prog 81 #[.agg #[.int .i64 p.1, .int .i64 p.2], .agg #[.int .i64 q.1, .int .i64 q.2]] w fun e w' => e = .returned (.int .i64 (awayI p q)) ∧ Ext w w' := by
  obtain ⟨p1, p2, p3, p4⟩ := hp
  obtain ⟨q1, q2, q3, q4⟩ := hq
  have w1 : IntKind.i64.wrap (p.1 - q.1) = p.1 - q.1 := IntWalk.i64_in _ (by omega)
  have w2 : IntKind.i64.wrap (q.1 - p.1) = q.1 - p.1 := IntWalk.i64_in _ (by omega)
  have w3 : IntKind.i64.wrap (p.2 - q.2) = p.2 - q.2 := IntWalk.i64_in _ (by omega)
  have w4 : IntKind.i64.wrap (q.2 - p.2) = q.2 - p.2 := IntWalk.i64_in _ (by omega)
  have E0 : Ext w ((( (( w).alloc (.cells #[.int .i64 p.1, .int .i64 p.2] 26))).alloc (.cells #[.int .i64 q.1, .int .i64 q.2] 26))) := ((Ext.refl _).alloc _).alloc _
  go_enter Try.func81, Try.ntmps81
  go_wp2
  all_goals go_ret
  all_goals exact ⟨ret_int (by unfold awayI; omega), E0⟩
end Go.Proofs.Ytfigooilhnahfaa
