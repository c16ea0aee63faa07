/- The statement TubingVerifies: for every grid and every list of places Verify and Bends of the package answer as the reference does, without any condition. -/
import Derived.Test.YtfigooilhnahfaaZVerifies1
import Derived.Test.YtfigooilhnahfaaZVerifies2
import Derived.Test.YtfigooilhnahfaaZVerifies3
import Derived.Test.YtfigooilhnahfaaZVerifies4
import Derived.Test.YtfigooilhnahfaaZVerifies5
import Derived.Test.YtfigooilhnahfaaZVerifies6
import Derived.Test.YtfigooilhnahfaaZVerifies7
import Derived.Test.YtfigooilhnahfaaZVerifies8
namespace Go.Proofs.Ytfigooilhnahfaa.tubingVerifies
open Go.RowKit Go.ChangeShapes Go.WideShapes Go.ChangeAt

set_option maxRecDepth 100000 in
theorem open_pls {H : Type} {enc : TypeId × Value → H} {w : World} {base : Nat} {spare : Nat → Bool} {held : Bool} {r : Reach} {b0 : Nat} {v : Value} {d : DataW H} {p : List MemPlace} (hv : Value.okWide Try.prog w r b0 22 v) (h : DataW.Trod enc Try.prog w base spare held 22 v d p) :
    ∃ (l : List Pt) (a : Option Addr) (cap : Nat), v = .slice a l.length cap ∧ Cells2 w a l ∧ l.length ≤ maxLen ∧ l.length ≤ cap := by
  have key : v.cells.toList = [v] := by
    simp only [Value.okWide, Try.underlying22] at hv
    cases v <;> first | rfl | (simp [Cell.okWide, Cell.ok, Try.underlying22] at hv)
  obtain ⟨fuel, hf⟩ := h
  rw [key] at hf
  have hs := Deep.open_slice Try.underlying22 hf
  obtain ⟨l, a, cap, rfl, hc, hl, _⟩ := open_slicePl hf
  refine ⟨l, a, cap, rfl, hc, hl, ?_⟩
  rcases hs with ⟨h1, _⟩ | ⟨a', len, cap', m, n, D, Pl, h1, _, h2, _⟩
  · simp at h1
    obtain ⟨_, h3, h4⟩ := h1
    simp [h3]
  · simp at h1
    obtain ⟨_, h3, h4⟩ := h1
    omega

theorem own : ownKnob Try.prog.godebug = none := by kernel_rfl

set_option maxRecDepth 100000 in
theorem lifted (os : Os) (started : os.Started) (H : Type) (enc : TypeId × Value → H) :
    ReturnsInHanded {} Try.checked os 7 .any (Rows.tubingVerifiesSpec.pre6 enc Try.prog Try.f7 Rows.tubingVerifiesRow.domain false) (Rows.tubingVerifiesSpec.post enc Try.prog Try.f7 false true false false) := by
  refine returnsInHanded_of_change (C := Try.checked) own started (by kernel_rfl) Try.func7
    (ChangeSpec.witness6 (enc := enc) (C := Try.checked) false ⟨#[], #[.agg #[.int .i64 0, .int .i64 0, .slice none 0 0], .slice none 0 0], []⟩ 8 (by kernel_rfl) (by kernel_rfl) (by kernel_rfl) (by kernel_rfl)) ?_
  intro W base args ds gs before hval0 hW hcnd _
  have hval : ∀ (j : Nat) t v, Try.f7.params[j]? = some t → args[j]? = some v → Value.okWide Try.prog W .any base t v := hval0
  have hW' := hW
  obtain ⟨p, q, hA0, hV, rfl, hfz, hnd⟩ := hW
  have hA : DataW.TrodAll enc Try.prog W 0 (fun _ => true) true Try.f7.params.toList args.toList ds p := hA0
  rw [Try.params7] at hA hval
  obtain ⟨v0, v1, d0, d1, p0, p1, rfl, rfl, rfl, h0, h1⟩ := trodAll_two hA
  obtain ⟨rfl, rfl⟩ := trodVars_none hV
  clear hA0 hval0
  simp only [List.append_nil] at hW'
  obtain ⟨g, ga, gc, rfl, hc, hl, _, _, _⟩ := open_grid (hval 0 _ v0 rfl rfl) h0
  obtain ⟨l, a, cap, rfl, hcl, hll, hcap⟩ := open_pls (hval 1 _ v1 rfl rfl) h1
  refine (TubingVerifies_any g l ga gc a cap W hl hc hll hcap hcl).mono fun e W' ⟨he, hx⟩ => ?_
  subst he
  refine ⟨_, rfl, _, _, _, [], p0 ++ p1, [], hW', trodAll_mk1 (shut_bool Try.underlying4 _), ?_, rfl, hx.frame _, fun h => by cases h⟩
  exact trodAll_mk2 (Below.trod laidOut (by kernel_rfl) (of_decide_eq_true (by kernel_rfl)) h0 hx (fun s hs => hW'.lt s (by simp [hs])))
    (Below.trod laidOut (by kernel_rfl) (of_decide_eq_true (by kernel_rfl)) h1 hx (fun s hs => hW'.lt s (by simp [hs])))

theorem over : Rows.tubingVerifiesRow.holds Try.pinned (OpenSpec.ofChange Rows.tubingVerifiesSpec) :=
  OpenClaim.holds_of_wide 7 Try.f7 rfl rfl rfl rfl rfl rfl rfl ⟨rfl, rfl, rfl, rfl, rfl⟩ rfl rfl rfl rfl rfl (by kernel_rfl) Try.func7 (by kernel_rfl)
    (of_decide_eq_true (by kernel_rfl)) (by unfold Func.isWrapper; first | (rw [if_pos (by decide +kernel)]; kernel_rfl) | (rw [if_neg (by decide +kernel)]; exact ⟨rfl, rfl⟩))
    (fun os started H enc _ => lifted os started H enc)

theorem proved : Rows.TubingVerifiesSaid := over
end Go.Proofs.Ytfigooilhnahfaa.tubingVerifies
