/- The statement VariantRests: for all right sequences what From and Parts return can be carried out, and together it is the sequence. Without any condition. -/
import Derived.Test.YtnhbogmihnnpjaaGreatYB1
import Derived.Test.YtnhbogmihnnpjaaGreatYB2
import Derived.Test.YtnhbogmihnnpjaaGreatYB3
import Derived.Test.YtnhbogmihnnpjaaGreatYB4
import Derived.Test.YtnhbogmihnnpjaaGreatYB5
import Derived.Test.YtnhbogmihnnpjaaGreatYB6
import Derived.Test.YtnhbogmihnnpjaaGreatYB7
import Derived.Test.YtnhbogmihnnpjaaGreatYB8
import Derived.Test.YtnhbogmihnnpjaaGreatYB9
import Derived.Test.YtnhbogmihnnpjaaGreatYB10
import Derived.Test.YtnhbogmihnnpjaaGreatYRests1
namespace Go.Proofs.YtnhbogmihnnpjaaGreat.variantRests
open Go.RowKit Go.ChangeShapes Go.WideShapes Go.ChangeAt

theorem own : ownKnob Tryz.prog.godebug = none := by kernel_rfl

set_option maxRecDepth 100000 in
theorem lifted (os : Os) (started : os.Started) (H : Type) (enc : TypeId × Value → H) :
    ReturnsInHanded {} Tryz.checked os 5 .any (Rows.variantRestsSpec.pre6 enc Tryz.prog Tryz.f5 Rows.variantRestsRow.domain false) (Rows.variantRestsSpec.post enc Tryz.prog Tryz.f5 false true false false) := by
  refine returnsInHanded_of_change (C := Tryz.checked) own started (by kernel_rfl) Tryz.func5
    (ChangeSpec.witness6 (enc := enc) (C := Tryz.checked) false ⟨#[], #[.agg #[.int .i64 0, .slice none 0 0]], []⟩ 8 (by kernel_rfl) (by kernel_rfl) (by kernel_rfl) (by kernel_rfl)) ?_
  intro W base args ds gs before hval0 hW hcnd _
  have hval : ∀ (j : Nat) t v, Tryz.f5.params[j]? = some t → args[j]? = some v → Value.okWide Tryz.prog W .any base t v := hval0
  have hW' := hW
  obtain ⟨p, q, hA0, hV, rfl, hfz, hnd⟩ := hW
  have hA : DataW.TrodAll enc Tryz.prog W 0 (fun _ => true) true Tryz.f5.params.toList args.toList ds p := hA0
  rw [Tryz.params5] at hA hval
  obtain ⟨v0, d0, rfl, rfl, h0⟩ := trodAll_one hA
  obtain ⟨rfl, rfl⟩ := trodVars_none hV
  clear hA0 hval0
  simp only [List.append_nil] at hW'
  obtain ⟨n0, l0, a0, c0, rfl, hc0, hl0, hr0, _⟩ := open_seq (hval 0 _ v0 rfl rfl) h0
  refine (VariantRests_any n0 l0 a0 c0 W hc0 hr0).mono fun e W' ⟨he, hx⟩ => ?_
  subst he
  refine ⟨_, rfl, _, _, _, [], p, [], hW', trodAll_mk1 (shut_bool Tryz.underlying4 _), ?_, rfl, hx.frame _, fun h => by cases h⟩
  exact trodAll_mk1 (Below.trod laidOut (by kernel_rfl) (of_decide_eq_true (by kernel_rfl)) h0 hx (fun s hs => hW'.lt s hs))

theorem over : Rows.variantRestsRow.holds Tryz.pinned (OpenSpec.ofChange Rows.variantRestsSpec) :=
  OpenClaim.holds_of_wide 5 Tryz.f5 rfl rfl rfl rfl rfl rfl rfl ⟨rfl, rfl, rfl, rfl, rfl⟩ rfl rfl rfl rfl rfl (by kernel_rfl) Tryz.func5 (by kernel_rfl)
    (of_decide_eq_true (by kernel_rfl)) (by unfold Func.isWrapper; first | (rw [if_pos (by decide +kernel)]; kernel_rfl) | (rw [if_neg (by decide +kernel)]; exact ⟨rfl, rfl⟩))
    (fun os started H enc _ => lifted os started H enc)

theorem proved : Rows.VariantRestsSaid := over
end Go.Proofs.YtnhbogmihnnpjaaGreat.variantRests
