/- The statement VariantTurns: for every sequence and number Pauses, From and Merge of the package answer as the reference does, without any condition. -/
import Derived.Test.YtnhbogmihnnpjaaGreatZTurns1
import Derived.Test.YtnhbogmihnnpjaaGreatZTurns2
import Derived.Test.YtnhbogmihnnpjaaGreatZTurns3
import Derived.Test.YtnhbogmihnnpjaaGreatZTurns4
import Derived.Test.YtnhbogmihnnpjaaGreatZTurns5
import Derived.Test.YtnhbogmihnnpjaaGreatZTurns6
import Derived.Test.YtnhbogmihnnpjaaGreatZTurns7
import Derived.Test.YtnhbogmihnnpjaaGreatZTurns8
import Derived.Test.YtnhbogmihnnpjaaGreatZTurns9
import Derived.Test.YtnhbogmihnnpjaaGreatZTurns10
namespace Go.Proofs.YtnhbogmihnnpjaaGreat.variantTurns
open Go.RowKit Go.ChangeShapes Go.WideShapes Go.ChangeAt

theorem own : ownKnob Tryz.prog.godebug = none := by kernel_rfl

set_option maxRecDepth 100000 in
theorem lifted (os : Os) (started : os.Started) (H : Type) (enc : TypeId × Value → H) :
    ReturnsInHanded {} Tryz.checked os 3 .any (Rows.variantTurnsSpec.pre6 enc Tryz.prog Tryz.f3 Rows.variantTurnsRow.domain false) (Rows.variantTurnsSpec.post enc Tryz.prog Tryz.f3 false true false false) := by
  refine returnsInHanded_of_change (C := Tryz.checked) own started (by kernel_rfl) Tryz.func3
    (ChangeSpec.witness6 (enc := enc) (C := Tryz.checked) false ⟨#[], #[.agg #[.int .i64 0, .slice none 0 0], .int .i64 0], []⟩ 8 (by kernel_rfl) (by kernel_rfl) (by kernel_rfl) (by kernel_rfl)) ?_
  intro W base args ds gs before hval0 hW hcnd _
  have hval : ∀ (j : Nat) t v, Tryz.f3.params[j]? = some t → args[j]? = some v → Value.okWide Tryz.prog W .any base t v := hval0
  have hW' := hW
  obtain ⟨p, q, hA0, hV, rfl, hfz, hnd⟩ := hW
  have hA : DataW.TrodAll enc Tryz.prog W 0 (fun _ => true) true Tryz.f3.params.toList args.toList ds p := hA0
  rw [Tryz.params3] at hA hval
  obtain ⟨v0, v1, d0, d1, p0, p1, rfl, rfl, rfl, h0, h1⟩ := trodAll_two hA
  obtain ⟨rfl, rfl⟩ := trodVars_none hV
  clear hA0 hval0
  simp only [List.append_nil] at hW'
  obtain ⟨n, l, a, cap, rfl, hc, hl, hr, _⟩ := open_seq (hval 0 _ v0 rfl rfl) h0
  obtain ⟨k, rfl, _⟩ := open_int Tryz.underlying3 (hval 1 _ v1 rfl rfl) h1
  refine (VariantTurns_any n l k a cap W hl hc hr).mono fun e W' ⟨he, hx⟩ => ?_
  subst he
  refine ⟨_, rfl, _, _, _, [], p0 ++ p1, [], hW', trodAll_mk1 (shut_bool Tryz.underlying4 _), ?_, rfl, hx.frame _, fun h => by cases h⟩
  exact trodAll_mk2 (Below.trod laidOut (by kernel_rfl) (of_decide_eq_true (by kernel_rfl)) h0 hx (fun s hs => hW'.lt s (by simp [hs])))
    (Below.trod laidOut (by kernel_rfl) (of_decide_eq_true (by kernel_rfl)) h1 hx (fun s hs => hW'.lt s (by simp [hs])))

theorem over : Rows.variantTurnsRow.holds Tryz.pinned (OpenSpec.ofChange Rows.variantTurnsSpec) :=
  OpenClaim.holds_of_wide 3 Tryz.f3 rfl rfl rfl rfl rfl rfl rfl ⟨rfl, rfl, rfl, rfl, rfl⟩ rfl rfl rfl rfl rfl (by kernel_rfl) Tryz.func3 (by kernel_rfl)
    (of_decide_eq_true (by kernel_rfl)) (by unfold Func.isWrapper; first | (rw [if_pos (by decide +kernel)]; kernel_rfl) | (rw [if_neg (by decide +kernel)]; exact ⟨rfl, rfl⟩))
    (fun os started H enc _ => lifted os started H enc)

theorem proved : Rows.VariantTurnsSaid := over
end Go.Proofs.YtnhbogmihnnpjaaGreat.variantTurns
