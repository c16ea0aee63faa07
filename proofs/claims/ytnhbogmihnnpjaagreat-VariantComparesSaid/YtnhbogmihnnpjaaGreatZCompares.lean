/- The statement VariantCompares: for all pairs of sequences Alike and Join of the package answer as the reference does. Without any condition. -/
import Derived.Test.YtnhbogmihnnpjaaGreatZCompares1
import Derived.Test.YtnhbogmihnnpjaaGreatZCompares2
import Derived.Test.YtnhbogmihnnpjaaGreatZCompares3
import Derived.Test.YtnhbogmihnnpjaaGreatZCompares4
import Derived.Test.YtnhbogmihnnpjaaGreatZCompares5
import Derived.Test.YtnhbogmihnnpjaaGreatZCompares6
import Derived.Test.YtnhbogmihnnpjaaGreatZCompares7
import Derived.Test.YtnhbogmihnnpjaaGreatZCompares8
import Derived.Test.YtnhbogmihnnpjaaGreatZCompares9
import Derived.Test.YtnhbogmihnnpjaaGreatZCompares10
namespace Go.Proofs.YtnhbogmihnnpjaaGreat.variantCompares
open Go.RowKit Go.ChangeShapes Go.WideShapes Go.ChangeAt

theorem own : ownKnob Tryz.prog.godebug = none := by kernel_rfl

set_option maxRecDepth 100000 in
theorem lifted (os : Os) (started : os.Started) (H : Type) (enc : TypeId × Value → H) :
    ReturnsInHanded {} Tryz.checked os 6 .any (Rows.variantComparesSpec.pre6 enc Tryz.prog Tryz.f6 Rows.variantComparesRow.domain false) (Rows.variantComparesSpec.post enc Tryz.prog Tryz.f6 false true false false) := by
  refine returnsInHanded_of_change (C := Tryz.checked) own started (by kernel_rfl) Tryz.func6
    (ChangeSpec.witness6 (enc := enc) (C := Tryz.checked) false ⟨#[], #[.agg #[.int .i64 0, .slice none 0 0], .agg #[.int .i64 0, .slice none 0 0]], []⟩ 8 (by kernel_rfl) (by kernel_rfl) (by kernel_rfl) (by kernel_rfl)) ?_
  intro W base args ds gs before hval0 hW hcnd _
  have hval : ∀ (j : Nat) t v, Tryz.f6.params[j]? = some t → args[j]? = some v → Value.okWide Tryz.prog W .any base t v := hval0
  have hW' := hW
  obtain ⟨p, q, hA0, hV, rfl, hfz, hnd⟩ := hW
  have hA : DataW.TrodAll enc Tryz.prog W 0 (fun _ => true) true Tryz.f6.params.toList args.toList ds p := hA0
  rw [Tryz.params6] at hA hval
  obtain ⟨v0, v1, d0, d1, p0, p1, rfl, rfl, rfl, h0, h1⟩ := trodAll_two hA
  obtain ⟨rfl, rfl⟩ := trodVars_none hV
  clear hA0 hval0
  simp only [List.append_nil] at hW'
  obtain ⟨n0, l0, a0, c0, rfl, hc0, hl0, hr0, _⟩ := open_seq (hval 0 _ v0 rfl rfl) h0
  obtain ⟨n1, l1, a1, c1, rfl, hc1, hl1, hr1, _⟩ := open_seq (hval 1 _ v1 rfl rfl) h1
  refine (VariantCompares_any n0 n1 l0 l1 a0 a1 c0 c1 W hc0 hr0 hc1 hr1).mono fun e W' ⟨he, hx⟩ => ?_
  subst he
  refine ⟨_, rfl, _, _, _, [], p0 ++ p1, [], hW', trodAll_mk1 (shut_bool Tryz.underlying4 _), ?_, rfl, hx.frame _, fun h => by cases h⟩
  exact trodAll_mk2 (Below.trod laidOut (by kernel_rfl) (of_decide_eq_true (by kernel_rfl)) h0 hx (fun s hs => hW'.lt s (by simp [hs])))
    (Below.trod laidOut (by kernel_rfl) (of_decide_eq_true (by kernel_rfl)) h1 hx (fun s hs => hW'.lt s (by simp [hs])))

theorem over : Rows.variantComparesRow.holds Tryz.pinned (OpenSpec.ofChange Rows.variantComparesSpec) :=
  OpenClaim.holds_of_wide 6 Tryz.f6 rfl rfl rfl rfl rfl rfl rfl ⟨rfl, rfl, rfl, rfl, rfl⟩ rfl rfl rfl rfl rfl (by kernel_rfl) Tryz.func6 (by kernel_rfl)
    (of_decide_eq_true (by kernel_rfl)) (by unfold Func.isWrapper; first | (rw [if_pos (by decide +kernel)]; kernel_rfl) | (rw [if_neg (by decide +kernel)]; exact ⟨rfl, rfl⟩))
    (fun os started H enc _ => lifted os started H enc)

theorem proved : Rows.VariantComparesSaid := over
end Go.Proofs.YtnhbogmihnnpjaaGreat.variantCompares
