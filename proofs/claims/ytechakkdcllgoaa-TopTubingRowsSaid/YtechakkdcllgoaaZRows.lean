/- The statement TopTubingRows: for every six numbers, on a grid of 8 rows and 8 columns without blocked cells, a route is as long as the differences of rows and columns, and the hoses and the meeting place answer as stated. No condition. -/
import Derived.Test.YtechakkdcllgoaaZRows1
import Derived.Test.YtechakkdcllgoaaZRows2
import Derived.Test.YtechakkdcllgoaaZRows3
import Derived.Test.YtechakkdcllgoaaZRows4
import Derived.Test.YtechakkdcllgoaaZRows5
namespace Go.Proofs.Ytechakkdcllgoaa.topTubingRows
open Go.RowKit Go.ChangeShapes Go.WideShapes Go.ChangeAt

theorem own : ownKnob Try.prog.godebug = none := by kernel_rfl

set_option maxRecDepth 100000 in
theorem lifted (os : Os) (started : os.Started) (H : Type) (enc : TypeId × Value → H) :
    ReturnsInHanded {} Try.checked os 3 .any (Rows.topTubingRowsSpec.pre6 enc Try.prog Try.f3 Rows.topTubingRowsRow.domain false) (Rows.topTubingRowsSpec.post enc Try.prog Try.f3 false true false false) := by
  refine returnsInHanded_of_change (C := Try.checked) own started (by kernel_rfl) Try.func3
    (ChangeSpec.witness6 (enc := enc) (C := Try.checked) false ⟨#[], #[.agg #[.int .u8 0, .int .u8 0, .int .u8 0, .int .u8 0, .int .u8 0, .int .u8 0]], []⟩ 8 (by kernel_rfl) (by kernel_rfl) (by kernel_rfl) (by kernel_rfl)) ?_
  intro W base args ds gs before hval0 hW hcnd _
  have hval : ∀ (j : Nat) t v, Try.f3.params[j]? = some t → args[j]? = some v → Value.okWide Try.prog W .any base t v := hval0
  have hW' := hW
  obtain ⟨p, q, hA0, hV, rfl, hfz, hnd⟩ := hW
  have hA : DataW.TrodAll enc Try.prog W 0 (fun _ => true) true Try.f3.params.toList args.toList ds p := hA0
  rw [Try.params3] at hA hval
  obtain ⟨v0, d0, rfl, rfl, h0⟩ := trodAll_one hA
  obtain ⟨rfl, rfl⟩ := trodVars_none hV
  clear hA0 hval0
  simp only [List.append_nil] at hW'
  obtain ⟨x0, x1, x2, x3, x4, x5, rfl, k0, k1, k2, k3, k4, k5⟩ := open_bytes6 (hval 0 _ v0 rfl rfl) h0
  refine (TubingRows_any x0 x1 x2 x3 x4 x5 W k0 k1 k2 k3 k4 k5).mono fun e W' ⟨he, hx⟩ => ?_
  subst he
  refine ⟨_, rfl, _, _, _, [], p, [], hW', trodAll_mk1 (shut_bool Try.underlying4 _), ?_, rfl, hx.frame _, fun h => by cases h⟩
  exact trodAll_mk1 (Below.trod laidOut (by kernel_rfl) (of_decide_eq_true (by kernel_rfl)) h0 hx (fun s hs => hW'.lt s hs))

theorem over : Rows.topTubingRowsRow.holds Try.pinned (OpenSpec.ofChange Rows.topTubingRowsSpec) :=
  OpenClaim.holds_of_wide 3 Try.f3 rfl rfl rfl rfl rfl rfl rfl ⟨rfl, rfl, rfl, rfl, rfl⟩ rfl rfl rfl rfl rfl (by kernel_rfl) Try.func3 (by kernel_rfl)
    (of_decide_eq_true (by kernel_rfl)) (by unfold Func.isWrapper; first | (rw [if_pos (by decide +kernel)]; kernel_rfl) | (rw [if_neg (by decide +kernel)]; exact ⟨rfl, rfl⟩))
    (fun os started H enc _ => lifted os started H enc)

theorem proved : Rows.TopTubingRowsSaid := over
end Go.Proofs.Ytechakkdcllgoaa.topTubingRows
