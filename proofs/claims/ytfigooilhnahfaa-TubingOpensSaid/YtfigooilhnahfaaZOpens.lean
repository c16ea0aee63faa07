/- The statement TubingOpens: for every right and small grid, every two places and every number the grid with one blocked cell less answers as the law says. No condition. -/
import Derived.Test.YtfigooilhnahfaaZOpens1
import Derived.Test.YtfigooilhnahfaaZOpens2
import Derived.Test.YtfigooilhnahfaaZOpens3
import Derived.Test.YtfigooilhnahfaaZOpens4
import Derived.Test.YtfigooilhnahfaaZOpens5
import Derived.Test.YtfigooilhnahfaaZOpens6
import Derived.Test.YtfigooilhnahfaaZOpens7
namespace Go.Proofs.Ytfigooilhnahfaa.tubingOpens
open Go.RowKit Go.ChangeShapes Go.WideShapes Go.ChangeAt

set_option maxRecDepth 100000 in
theorem open_u8 {H : Type} {enc : TypeId × Value → H} {w : World} {base : Nat} {spare : Nat → Bool} {held : Bool} {r : Reach} {b0 : Nat} {v : Value} {d : DataW H} {p : List MemPlace} (hv : Value.okWide Try.prog w r b0 5 v) (h : DataW.Trod enc Try.prog w base spare held 5 v d p) :
    ∃ i : Int, v = .int .u8 i ∧ 0 ≤ i ∧ i ≤ 255 := by
  have key : v.cells.toList = [v] := by
    simp only [Value.okWide, Try.underlying5] at hv
    cases v <;> first | rfl | (simp [Cell.okWide, Cell.ok, Try.underlying5] at hv)
  obtain ⟨fuel, hf⟩ := h
  rw [key] at hf
  obtain ⟨i, e0, _, w0⟩ := DataW.trod_int Try.underlying5 hf
  simp at e0
  refine ⟨i, e0, ?_⟩
  simp [Lit.wf] at w0
  have h1 : IntKind.u8.min = 0 := by decide
  have h2 : IntKind.u8.max = 255 := by decide
  rw [h1, h2] at w0
  exact w0

theorem own : ownKnob Try.prog.godebug = none := by kernel_rfl

set_option maxRecDepth 100000 in
theorem lifted (os : Os) (started : os.Started) (H : Type) (enc : TypeId × Value → H) :
    ReturnsInHanded {} Try.checked os 10 .any (Rows.tubingOpensSpec.pre6 enc Try.prog Try.f10 Rows.tubingOpensRow.domain false) (Rows.tubingOpensSpec.post enc Try.prog Try.f10 false true false false) := by
  refine returnsInHanded_of_change (C := Try.checked) own started (by kernel_rfl) Try.func10
    (ChangeSpec.witness6 (enc := enc) (C := Try.checked) false ⟨#[], #[.agg #[.int .i64 0, .int .i64 0, .slice none 0 0], .agg #[.int .i64 0, .int .i64 0, .int .i64 0, .int .i64 0], .int .u8 0], []⟩ 8 (by kernel_rfl) (by kernel_rfl) (by kernel_rfl) (by kernel_rfl)) ?_
  intro W base args ds gs before hval0 hW hcnd _
  have hval : ∀ (j : Nat) t v, Try.f10.params[j]? = some t → args[j]? = some v → Value.okWide Try.prog W .any base t v := hval0
  have hW' := hW
  obtain ⟨p, q, hA0, hV, rfl, hfz, hnd⟩ := hW
  have hA : DataW.TrodAll enc Try.prog W 0 (fun _ => true) true Try.f10.params.toList args.toList ds p := hA0
  rw [Try.params10] at hA hval
  obtain ⟨v0, v1, v2, d0, d1, d2, p0, p1, p2, rfl, rfl, rfl, h0, h1, h2⟩ := trodAll_three hA
  obtain ⟨rfl, rfl⟩ := trodVars_none hV
  clear hA0 hval0
  simp only [List.append_nil, List.append_assoc] at hW'
  obtain ⟨g, ga, gc, rfl, hc, hl, _, _, _⟩ := open_grid (hval 0 _ v0 rfl rfl) h0
  obtain ⟨x, rfl⟩ := open_two (hval 1 _ v1 rfl rfl) h1
  obtain ⟨y, rfl, hy⟩ := open_u8 (hval 2 _ v2 rfl rfl) h2
  refine (TubingOpens_any g x.1 x.2 y ga gc W hy hl hc).mono fun e W' ⟨he, hx⟩ => ?_
  subst he
  refine ⟨_, rfl, _, _, _, [], p0 ++ (p1 ++ p2), [], hW', trodAll_mk1 (shut_bool Try.underlying4 _), ?_, rfl, hx.frame _, fun h => by cases h⟩
  exact trodAll_mk3 (Below.trod laidOut (by kernel_rfl) (of_decide_eq_true (by kernel_rfl)) h0 hx (fun s hs => hW'.lt s (by simp [hs])))
    (Below.trod laidOut (by kernel_rfl) (of_decide_eq_true (by kernel_rfl)) h1 hx (fun s hs => hW'.lt s (by simp [hs])))
    (Below.trod laidOut (by kernel_rfl) (of_decide_eq_true (by kernel_rfl)) h2 hx (fun s hs => hW'.lt s (by simp [hs])))

theorem over : Rows.tubingOpensRow.holds Try.pinned (OpenSpec.ofChange Rows.tubingOpensSpec) :=
  OpenClaim.holds_of_wide 10 Try.f10 rfl rfl rfl rfl rfl rfl rfl ⟨rfl, rfl, rfl, rfl, rfl⟩ rfl rfl rfl rfl rfl (by kernel_rfl) Try.func10 (by kernel_rfl)
    (of_decide_eq_true (by kernel_rfl)) (by unfold Func.isWrapper; first | (rw [if_pos (by decide +kernel)]; kernel_rfl) | (rw [if_neg (by decide +kernel)]; exact ⟨rfl, rfl⟩))
    (fun os started H enc _ => lifted os started H enc)

theorem proved : Rows.TubingOpensSaid := over
end Go.Proofs.Ytfigooilhnahfaa.tubingOpens
