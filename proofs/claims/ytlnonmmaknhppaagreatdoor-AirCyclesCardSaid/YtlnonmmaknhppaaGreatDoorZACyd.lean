/- The statement AirCycles: for every list of right cylinders, right sequence and pressure a cycle needs the air of both strokes of each actuator, as often as it moves, in every world in which the listed variables read as they were laid. -/
import Derived.Test.YtlnonmmaknhppaaGreatDoorZAC1
import Derived.Test.YtlnonmmaknhppaaGreatDoorZAC2
import Derived.Test.YtlnonmmaknhppaaGreatDoorZAC3
import Derived.Test.YtlnonmmaknhppaaGreatDoorZAC4
import Derived.Test.YtlnonmmaknhppaaGreatDoorZAC5
import Derived.Test.YtlnonmmaknhppaaGreatDoorZAC6
import Derived.Test.YtlnonmmaknhppaaGreatDoorZAC7
import Derived.Test.YtlnonmmaknhppaaGreatDoorZAC8
import Derived.Test.YtlnonmmaknhppaaGreatDoorZAC9
import Derived.Test.YtlnonmmaknhppaaGreatDoorZACyd1
import Derived.Test.YtlnonmmaknhppaaGreatDoorZACyd2
namespace Go.Proofs.YtlnonmmaknhppaaGreatDoor.airCycles
open Go.RowKit Go.ChangeShapes Go.WideShapes Go.ChangeAt Go.Joins Go.Deep
open Go.ChangeMaps (open_string shut_string)
set_option maxRecDepth 100000 in
theorem contract (H : Type) (enc : TypeId × Value → H) (W : World) (base : Nat) (args : Array Value) (ds gs : List (DataW H)) (before : List MemPlace)
    (hval : ∀ (j : Nat) t v, Tryz.f11.params[j]? = some t → args[j]? = some v → Value.okWide Tryz.prog W .any base t v)
    (hW : DataW.Whole enc Tryz.prog Tryz.f11.params.toList Rows.airCyclesSpec.vars false W args.toList ds gs before) (hG : Glob W) :
    Calls Tryz.prog 11 args W fun e W' => ∃ v, e = .returned v ∧ Rows.airCyclesSpec.post enc Tryz.prog Tryz.f11 false true false false W args v W' := by
  have hW' := hW
  obtain ⟨p, q, hA0, hV, rfl, hfz, hnd⟩ := hW
  have hA : DataW.TrodAll enc Tryz.prog W 0 (fun _ => true) true Tryz.f11.params.toList args.toList ds p := hA0
  rw [Tryz.params11] at hA hval
  obtain ⟨v0, v1, v2, d0, d1, d2, p0, p1, p2, rfl, rfl, rfl, h0, h1, h2⟩ := trodAll_three hA
  obtain ⟨rfl, rfl⟩ := trodVars_none hV
  clear hA0
  simp only [List.append_nil] at hW'
  obtain ⟨l0, a0, cap0, rfl, e0, f0, g0, j0⟩ := open_cyls (hval 0 _ v0 rfl rfl) h0
  obtain ⟨n1, l1, a1, cap1, rfl, e1, f1, _, _⟩ := open_seq (hval 1 _ v1 rfl rfl) h1
  obtain ⟨s2, rfl, _, _, y2⟩ := open_int Tryz.underlying3 (hval 2 _ v2 rfl rfl) h2
  have z2 := i64_bd y2
  refine (lawCycles_any l0 a0 cap0 n1 l1 a1 cap1 s2 W hG e0 f0 e1 f1).mono fun e W' ⟨he, hx⟩ => ?_
  subst he
  refine ⟨_, rfl, _, _, _, [], p0 ++ (p1 ++ p2), [], hW', trodAll_mk1 (shut_bool Tryz.underlying4 _), ?_, rfl, hx.frame _, fun h => by cases h⟩
  exact trodAll_mk3 (Below.trod laidOut (by kernel_rfl) (of_decide_eq_true (by kernel_rfl)) h0 hx (fun s hs => hW'.lt s (by simp [hs]))) (Below.trod laidOut (by kernel_rfl) (of_decide_eq_true (by kernel_rfl)) h1 hx (fun s hs => hW'.lt s (by simp [hs]))) (Below.trod laidOut (by kernel_rfl) (of_decide_eq_true (by kernel_rfl)) h2 hx (fun s hs => hW'.lt s (by simp [hs])))
theorem factIn : (Rows.airCyclesRow.inPlace == Tryz.pinned.checked.prog.inPlace 11) = true := by kernel_rfl
theorem factUn : (Rows.airCyclesRow.unfollowed == Tryz.pinned.checked.prog.unfollowed 11) = true := by kernel_rfl
theorem factRec : (Rows.airCyclesRow.recurses == Tryz.pinned.checked.prog.recurses 11) = true := by kernel_rfl
theorem factNam : (Rows.airCyclesRow.named == Tryz.pinned.checked.prog.varsNamed 11) = true := by kernel_rfl
set_option maxRecDepth 100000 in
theorem closed : joinedFacts Tryz.pinned.checked.prog 11 Tryz.f11 (OpenSpec.ofChange Rows.airCyclesSpec).bare Rows.airCyclesRow = true := by
  unfold joinedFacts
  exact (band (band (band (band (band (band (band (band (band (band (band (band (band (band (band (band (band (band (band (band (band (band (band (band (band (band (band (band (band (band (band (by kernel_rfl) factLaid) factMaps) (by kernel_rfl)) (by kernel_rfl)) (by kernel_rfl)) (by kernel_rfl)) (by kernel_rfl)) (by kernel_rfl)) factIn) factUn) factRec) factNam) (by kernel_rfl)) (by kernel_rfl)) (by kernel_rfl)) (by kernel_rfl)) (by kernel_rfl)) (by kernel_rfl)) (by kernel_rfl)) (by kernel_rfl)) (by kernel_rfl)) factKeys) (by kernel_rfl)) factHeard) factEnter) factLifts) factMake) (by kernel_rfl)) (by kernel_rfl)) (by kernel_rfl)) (by kernel_rfl))
theorem reads (os : Os) {H : Type} (enc : TypeId × Value → H) : ∃ places, DataW.whole enc Tryz.prog ((laidWorld os).forCall (fun _ _ => 0) ⟨#[], #[(.slice none 0 0 : Value), (.agg #[.int .i64 0, .slice none 0 0] : Value), (.int .i64 0 : Value)], []⟩).memory Tryz.f11.params.toList Rows.airCyclesSpec.vars false (#[(.slice none 0 0 : Value), (.agg #[.int .i64 0, .slice none 0 0] : Value), (.int .i64 0 : Value)] : Array Value).toList 8 = some ([.nil, .agg [.lit (.int .i64 0), .nil], .lit (.int .i64 0)], [], places) :=
  ⟨[], by kernel_rfl⟩
set_option maxRecDepth 100000 in
theorem lifted (os : Os) (started : os.Started) (H : Type) (enc : TypeId × Value → H) (F : Stop.Interp) :
    ReturnsInHanded {} Tryz.checked os 11 .any ((OpenSpec.ofChange Rows.airCyclesSpec).preRow enc Tryz.prog Tryz.f11 Rows.airCyclesRow.domain false Rows.airCyclesRow.laid) (((OpenSpec.ofChange Rows.airCyclesSpec).at F).post enc Tryz.prog Tryz.f11 false true false false) := by
  obtain ⟨places, hx⟩ := reads os enc
  refine returnsInHanded_of_row (C := Tryz.checked) (s := OpenSpec.ofChange Rows.airCyclesSpec) own started (by kernel_rfl) Tryz.func11
    (witness_row_at (enc := enc) (C := Tryz.checked) false (laidWorld os) #[.slice none 0 0, .agg #[.int .i64 0, .slice none 0 0], .int .i64 0] rfl (by kernel_rfl) (by kernel_rfl) (by kernel_rfl)
      (OpenSpec.preRow_of_cond 8 hx (by kernel_rfl) (fun k hk => by cases hk) (by kernel_rfl) (laid_met os _))) ?_
  intro W base args ds gs before hval hW _ _ _ hL hS _
  exact contract H enc W base args ds gs before hval hW (glob_of hS hL)
theorem said : Rows.AirCyclesSaid :=
  OpenClaim.holds_of_cond 11 Tryz.f11 rfl rfl rfl rfl rfl rfl rfl ⟨rfl, rfl, rfl, rfl, rfl⟩ rfl rfl rfl rfl rfl (by kernel_rfl) Tryz.func11 closed
    (of_decide_eq_true (by kernel_rfl)) (by unfold Func.isWrapper; first | (rw [if_pos (by decide +kernel)]; kernel_rfl) | (rw [if_neg (by decide +kernel)]; exact ⟨rfl, rfl⟩))
    (fun os started H enc _ F => by rw [OpenClaim.pre_eq_preRow]; exact lifted os started H enc F)
theorem plain (f : FuncId) (fn : Func) (hf : Tryz.pinned.checked.prog.funcNamed "pneumatic/pneumaticlaw55.AirCycles" = some f) (hfn : Tryz.pinned.checked.prog.funcs[f]? = some fn) :
    true = Tryz.pinned.checked.prog.looks [] ∧ ∀ (j : Nat) t, fn.params[j]? = some t → Tryz.pinned.checked.prog.wantsStandIn t = false := by
  obtain rfl : f = 11 := Option.some.inj ((show Tryz.prog.funcNamed "pneumatic/pneumaticlaw55.AirCycles" = some 11 by kernel_rfl).symm.trans hf) |>.symm
  obtain rfl : fn = Tryz.f11 := (Option.some.inj (Tryz.func11.symm.trans hfn)).symm
  refine ⟨by kernel_rfl, fun j t ht => ?_⟩
  rw [Tryz.params11] at ht
  have hm : t = 68 ∨ t = 71 ∨ t = 3 := by simpa using Array.mem_of_getElem? ht
  rcases hm with rfl | rfl | rfl
  · exact (show Tryz.prog.wantsStandIn 68 = false by kernel_rfl)
  · exact (show Tryz.prog.wantsStandIn 71 = false by kernel_rfl)
  · exact (show Tryz.prog.wantsStandIn 3 = false by kernel_rfl)
theorem proved : Rows.AirCyclesCardSaid :=
  Claim7.holds_tied_plain_at .later [] _ _ _ _ said (fun _ h => by cases h) (by kernel_rfl) (fun _ h => by cases h) airCycles_row_tie rfl ⟨rfl, rfl⟩ (by kernel_rfl) rfl plain (by kernel_rfl)
end Go.Proofs.YtlnonmmaknhppaaGreatDoor.airCycles
