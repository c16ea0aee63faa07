/- The statement TubingBundles: for every grid and every list of hoses Ducts of the package answers as the reference does. No condition. -/
import Derived.Test.YtfigooilhnahfaaZBundles1
import Derived.Test.YtfigooilhnahfaaZBundles2
import Derived.Test.YtfigooilhnahfaaZBundles3
import Derived.Test.YtfigooilhnahfaaZBundles4
import Derived.Test.YtfigooilhnahfaaZBundles5
import Derived.Test.YtfigooilhnahfaaZBundles6
import Derived.Test.YtfigooilhnahfaaZBundles7
namespace Go.Proofs.Ytfigooilhnahfaa.tubingBundles
open Go.RowKit Go.ChangeShapes Go.WideShapes Go.ChangeAt

theorem own : ownKnob Try.prog.godebug = none := by kernel_rfl

set_option maxRecDepth 100000 in
theorem lifted (os : Os) (started : os.Started) (H : Type) (enc : TypeId × Value → H) :
    ReturnsInHanded {} Try.checked os 4 .any (Rows.tubingBundlesSpec.pre6 enc Try.prog Try.f4 Rows.tubingBundlesRow.domain false) (Rows.tubingBundlesSpec.post enc Try.prog Try.f4 false true false false) := by
  refine returnsInHanded_of_change (C := Try.checked) own started (by kernel_rfl) Try.func4
    (ChangeSpec.witness6 (enc := enc) (C := Try.checked) false ⟨#[], #[.agg #[.int .i64 0, .int .i64 0, .slice none 0 0], .slice none 0 0], []⟩ 8 (by kernel_rfl) (by kernel_rfl) (by kernel_rfl) (by kernel_rfl)) ?_
  intro W base args ds gs before hval0 hW hcnd _
  have hval : ∀ (j : Nat) t v, Try.f4.params[j]? = some t → args[j]? = some v → Value.okWide Try.prog W .any base t v := hval0
  have hW' := hW
  obtain ⟨p, q, hA0, hV, rfl, hfz, hnd⟩ := hW
  have hA : DataW.TrodAll enc Try.prog W 0 (fun _ => true) true Try.f4.params.toList args.toList ds p := hA0
  rw [Try.params4] at hA hval
  obtain ⟨v0, v1, d0, d1, p0, p1, rfl, rfl, rfl, h0, h1⟩ := trodAll_two hA
  obtain ⟨rfl, rfl⟩ := trodVars_none hV
  clear hA0 hval0
  simp only [List.append_nil] at hW'
  obtain ⟨g, ga, gc, rfl, hc, hl, _, _, _⟩ := open_grid (hval 0 _ v0 rfl rfl) h0
  obtain ⟨l, a, cap, rfl, hcl, hll⟩ := open_hs (hval 1 _ v1 rfl rfl) h1
  refine (TubingBundles_any g l ga gc a cap W hl hc hll hcl).mono fun e W' ⟨he, hx⟩ => ?_
  subst he
  refine ⟨_, rfl, _, _, _, [], p0 ++ p1, [], hW', trodAll_mk1 (shut_bool Try.underlying4 _), ?_, rfl, hx.frame _, fun h => by cases h⟩
  exact trodAll_mk2 (Below.trod laidOut (by kernel_rfl) (of_decide_eq_true (by kernel_rfl)) h0 hx (fun s hs => hW'.lt s (by simp [hs])))
    (Below.trod laidOut (by kernel_rfl) (of_decide_eq_true (by kernel_rfl)) h1 hx (fun s hs => hW'.lt s (by simp [hs])))

theorem over : Rows.tubingBundlesRow.holds Try.pinned (OpenSpec.ofChange Rows.tubingBundlesSpec) :=
  OpenClaim.holds_of_wide 4 Try.f4 rfl rfl rfl rfl rfl rfl rfl ⟨rfl, rfl, rfl, rfl, rfl⟩ rfl rfl rfl rfl rfl (by kernel_rfl) Try.func4 (by kernel_rfl)
    (of_decide_eq_true (by kernel_rfl)) (by unfold Func.isWrapper; first | (rw [if_pos (by decide +kernel)]; kernel_rfl) | (rw [if_neg (by decide +kernel)]; exact ⟨rfl, rfl⟩))
    (fun os started H enc _ => lifted os started H enc)

theorem proved : Rows.TubingBundlesSaid := over
end Go.Proofs.Ytfigooilhnahfaa.tubingBundles
