/- The statement FractionSums: for every list of texts Sum of the package answers as the reference does, in every world in which the listed variables read as they were laid. -/
import Derived.SliceStrings
import Derived.Lib.SmallJoins
import Derived.Test.YtpfanpkinlklnaaGreatDoorZFB1
import Derived.Test.YtpfanpkinlklnaaGreatDoorZFB2
import Derived.Test.YtpfanpkinlklnaaGreatDoorZFB3
import Derived.Test.YtpfanpkinlklnaaGreatDoorZFB4
import Derived.Test.YtpfanpkinlklnaaGreatDoorZFB5
import Derived.Test.YtpfanpkinlklnaaGreatDoorZFB6
import Derived.Test.YtpfanpkinlklnaaGreatDoorZFB7
import Derived.Test.YtpfanpkinlklnaaGreatDoorZFB8
import Derived.Test.YtpfanpkinlklnaaGreatDoorZFB9
import Derived.Test.YtpfanpkinlklnaaGreatDoorZFB10
import Derived.Test.YtpfanpkinlklnaaGreatDoorZFB11
import Derived.Test.YtpfanpkinlklnaaGreatDoorZFSum1
namespace Go.Proofs.YtpfanpkinlklnaaGreatDoor.fractionSums
open Go.RowKit Go.ChangeShapes Go.WideShapes Go.ChangeAt Go.Joins Go.Deep
open Go.ChangeMaps (open_string shut_string)

theorem laidOut : laidOutB Tryz.prog = true := by kernel_rfl
theorem cellsFrac : Tryz.prog.cellsOf 23 = 1 := by kernel_rfl
section
variable {H : Type} {enc : TypeId × Value → H} {w : World} {base : Nat} {spare : Nat → Bool} {held : Bool}
set_option maxRecDepth 100000 in
/-- a list of texts as an argument, opened -/
theorem open_txts {r : Reach} {b0 : Nat} {v : Value} {d : DataW H} {p : List MemPlace} (hv : Value.okWide Tryz.prog w r b0 37 v) (h : DataW.Trod enc Tryz.prog w base spare held 37 v d p) :
    ∃ (l : List Txt) (a : Option Addr) (cap : Nat), v = .slice a l.length cap ∧ CellsT w a l ∧ l.length ≤ 9223372036854775807 := by
  have key : v.cells.toList = [v] := by
    simp only [Value.okWide, Tryz.underlying37] at hv
    cases v <;> first | rfl | (simp [Cell.okWide, Cell.ok, Tryz.underlying37] at hv)
  obtain ⟨fuel, hf⟩ := h
  rw [key] at hf
  rcases open_strings Tryz.underlying37 Tryz.underlying23 cellsFrac hf with ⟨h1, _⟩ | ⟨a, len, cap, ss, h1, _, hl, hm, hlen, _, hc, _⟩
  · simp at h1
    exact ⟨[], none, 0, h1, (fun i hi => by simp at hi), by simp⟩
  · simp at h1
    have hle : len ≤ ss.length := by rw [hlen]; split <;> omega
    have hll : ((ss.take len).map fun s => s.data.toList).length = len := by rw [List.length_map, List.length_take]; omega
    refine ⟨(ss.take len).map fun s => s.data.toList, some a, cap, by rw [hll]; exact h1, fun i hi => ?_, ?_⟩
    · rw [hll] at hi
      have h2 := hc i (by omega)
      obtain ⟨b, off, spot⟩ := a
      have hs : spot = none := by
        have h0 := World.cell?_spot (hc 0 (by omega))
        simpa [Addr.add] using h0
      subst hs
      refine ⟨b, off, rfl, ?_⟩
      rw [Addr.add_lit] at h2
      rw [h2]
      have hi2 : i < ss.length := by omega
      have e : (ss.take len)[i]? = some ss[i] := by rw [List.getElem?_take, if_pos hi, List.getElem?_eq_getElem hi2]
      have e2 : ((ss.take len).map fun s => s.data.toList).getD i [] = ss[i].data.toList := by
        rw [List.getD_eq_getElem?_getD, List.getElem?_map, e]; rfl
      rw [e2, List.getD_eq_getElem?_getD, List.getElem?_eq_getElem hi2]
      rfl
    · have : maxLen ≤ 9223372036854775807 := by decide
      rw [hll]; omega
end
set_option maxRecDepth 100000 in
theorem contract (H : Type) (enc : TypeId × Value → H) (W : World) (base : Nat) (args : Array Value) (ds gs : List (DataW H)) (before : List MemPlace)
    (hval : ∀ (j : Nat) t v, Tryz.f6.params[j]? = some t → args[j]? = some v → Value.okWide Tryz.prog W .any base t v)
    (hW : DataW.Whole enc Tryz.prog Tryz.f6.params.toList Rows.fractionSumsSpec.vars false W args.toList ds gs before) (hG : Glob W) :
    Calls Tryz.prog 6 args W fun e W' => ∃ v, e = .returned v ∧ Rows.fractionSumsSpec.post enc Tryz.prog Tryz.f6 false true false false W args v W' := by
  have hW' := hW
  obtain ⟨p, q, hA0, hV, rfl, hfz, hnd⟩ := hW
  have hA : DataW.TrodAll enc Tryz.prog W 0 (fun _ => true) true Tryz.f6.params.toList args.toList ds p := hA0
  rw [Tryz.params6] at hA hval
  obtain ⟨v0, d0, rfl, rfl, h0⟩ := trodAll_one hA
  obtain ⟨rfl, rfl⟩ := trodVars_none hV
  clear hA0
  obtain ⟨l, a, cap, rfl, hc, hl⟩ := open_txts (hval 0 _ v0 rfl rfl) h0
  simp only [List.append_nil] at hW'
  refine (lawSums_any l a cap W hG hc hl).mono fun e W' ⟨he, hx⟩ => ?_
  subst he
  refine ⟨_, rfl, _, _, _, [], p, [], hW', trodAll_mk1 (shut_bool Tryz.underlying4 _), ?_, rfl, hx.frame _, fun h => by cases h⟩
  exact trodAll_mk1 (Below.trod laidOut (by kernel_rfl) (of_decide_eq_true (by kernel_rfl)) h0 hx (fun s hs => hW'.lt s (by simp [hs])))

theorem reads (os : Os) {H : Type} (enc : TypeId × Value → H) : ∃ places, DataW.whole enc Tryz.prog ((laidWorld os).forCall (fun _ _ => 0) ⟨#[], #[(.slice none 0 0 : Value)], []⟩).memory Tryz.f6.params.toList Rows.fractionSumsSpec.vars false (#[(.slice none 0 0 : Value)] : Array Value).toList 8 = some ([.nil], [], places) :=
  ⟨[], by kernel_rfl⟩

set_option maxRecDepth 100000 in
theorem lifted (os : Os) (started : os.Started) (H : Type) (enc : TypeId × Value → H) (F : Stop.Interp) :
    ReturnsInHanded {} Tryz.checked os 6 .any ((OpenSpec.ofChange Rows.fractionSumsSpec).preRow enc Tryz.prog Tryz.f6 Rows.fractionSumsRow.domain false Rows.fractionSumsRow.laid) (((OpenSpec.ofChange Rows.fractionSumsSpec).at F).post enc Tryz.prog Tryz.f6 false true false false) := by
  obtain ⟨places, hx⟩ := reads os enc
  refine returnsInHanded_of_row (C := Tryz.checked) (s := OpenSpec.ofChange Rows.fractionSumsSpec) own started (by kernel_rfl) Tryz.func6
    (witness_row_at (enc := enc) (C := Tryz.checked) false (laidWorld os) #[.slice none 0 0] rfl (by kernel_rfl) (by kernel_rfl) (by kernel_rfl)
      (OpenSpec.preRow_of_cond 8 hx (by kernel_rfl) (fun k hk => by cases hk) (by kernel_rfl) (laid_met os _))) ?_
  intro W base args ds gs before hval hW _ _ _ hL hS _
  exact contract H enc W base args ds gs before hval hW (glob_of hS hL)

theorem said : Rows.FractionSumsSaid :=
  OpenClaim.holds_of_cond 6 Tryz.f6 rfl rfl rfl rfl rfl rfl rfl ⟨rfl, rfl, rfl, rfl, rfl⟩ rfl rfl rfl rfl rfl (by kernel_rfl) Tryz.func6 (by kernel_rfl)
    (of_decide_eq_true (by kernel_rfl)) (by unfold Func.isWrapper; first | (rw [if_pos (by decide +kernel)]; kernel_rfl) | (rw [if_neg (by decide +kernel)]; exact ⟨rfl, rfl⟩))
    (fun os started H enc _ F => by rw [OpenClaim.pre_eq_preRow]; exact lifted os started H enc F)

theorem plain (f : FuncId) (fn : Func) (hf : Tryz.pinned.checked.prog.funcNamed "pneumatic/pneumaticlaw01.FractionSums" = some f) (hfn : Tryz.pinned.checked.prog.funcs[f]? = some fn) :
    true = Tryz.pinned.checked.prog.looks [] ∧ ∀ (j : Nat) t, fn.params[j]? = some t → Tryz.pinned.checked.prog.wantsStandIn t = false := by
  obtain rfl : f = 6 := Option.some.inj ((show Tryz.prog.funcNamed "pneumatic/pneumaticlaw01.FractionSums" = some 6 by kernel_rfl).symm.trans hf) |>.symm
  obtain rfl : fn = Tryz.f6 := (Option.some.inj (Tryz.func6.symm.trans hfn)).symm
  refine ⟨by kernel_rfl, fun j t ht => ?_⟩
  rw [Tryz.params6] at ht
  obtain rfl : t = 37 := by simpa using Array.mem_of_getElem? ht
  exact (show Tryz.prog.wantsStandIn 37 = false by kernel_rfl)

/-- the card -/
theorem proved : Rows.FractionSumsCardSaid :=
  Claim7.holds_tied_plain_at .later [] _ _ _ _ said (fun _ h => by cases h) (by kernel_rfl) (fun _ h => by cases h) fractionSums_row_tie rfl ⟨rfl, rfl⟩ (by kernel_rfl) rfl plain (by kernel_rfl)
end Go.Proofs.YtpfanpkinlklnaaGreatDoor.fractionSums
