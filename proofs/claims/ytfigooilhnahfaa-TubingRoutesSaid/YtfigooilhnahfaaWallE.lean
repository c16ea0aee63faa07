/- The examples of the chapter, reckoned. -/
import Derived.Test.YtfigooilhnahfaaDucts
import Derived.Test.YtfigooilhnahfaaBends
import Derived.Test.YtfigooilhnahfaaRouteA
namespace Go.Proofs.Ytfigooilhnahfaa

theorem wall_way : way wallG (0, 1) (2, 1) = [(0, 1), (0, 0), (1, 0), (2, 0), (2, 1)] := by decide +kernel
theorem wall_chk : chk wallG = 0 := by decide +kernel
theorem wall_given : givenErr wallG [(0, 1), (2, 1)] = 0 := by decide +kernel
theorem wall_dst : dst wallG (2, 1) (0, 1) = 4 := by decide +kernel
theorem wall_bends : bendV wallG [(0, 1), (0, 0), (1, 0), (2, 0), (2, 1)] = 2 ∧ bendE wallG [(0, 1), (0, 0), (1, 0), (2, 0), (2, 1)] = 0 := by decide +kernel
theorem wall_meet : meetP wallG (0, 0) (0, 3) (2, 0) = (0, 0) ∧ meetN wallG (0, 0) (0, 3) (2, 0) = 5 ∧ meetE wallG (0, 0) (0, 3) (2, 0) = 0 := by decide +kernel
theorem wall_duct : ductN wallG [((0, 0), (0, 3)), ((0, 1), (2, 0))] = 5 ∧ ductE wallG [((0, 0), (0, 3)), ((0, 1), (2, 0))] = 0 := by decide +kernel
theorem wall_route : routeV wallG (0, 1) (2, 1) = [(0, 1), (0, 0), (1, 0), (2, 0), (2, 1)] ∧ lenE wallG (0, 1) (2, 1) = 0 := by decide +kernel
theorem wall_parts : partsL wallG = [10] := by
  have h : partsU wallG = [10] := by decide +kernel
  unfold partsL
  rw [if_neg (by rw [wall_chk]; decide), h]
  simp
end Go.Proofs.Ytfigooilhnahfaa
