/- Steps of the proof: FGiv, COpen, CJoin. No conditions. -/
import Derived.Test.YtlhpfhnbeagnaaaGreatDoorCards
import Derived.Test.YtlhpfhnbeagnaaaGreatDoorTie
import Derived.WalkKit
import Derived.ProofKit
import Derived.OpenShut
import Derived.Deep.DeepHandedRow
import Derived.Lib.LaidTab
import Derived.LaidSub
import Derived.Stop.LaidErr
import Derived.MakeChecks
import Derived.Lib.SmallJoins
import Derived.Deep.Slices
import Derived.Deep.Strs
import Derived.SliceStrings
import Derived.FnData
import Derived.Test.YtlhpfhnbeagnaaaGreatDoorZCB1
import Derived.Test.YtlhpfhnbeagnaaaGreatDoorZCB2
import Derived.Test.YtlhpfhnbeagnaaaGreatDoorZCB3
import Derived.Test.YtlhpfhnbeagnaaaGreatDoorZCB4
import Derived.Test.YtlhpfhnbeagnaaaGreatDoorZCB5
import Derived.Test.YtlhpfhnbeagnaaaGreatDoorZCB6
import Derived.Test.YtlhpfhnbeagnaaaGreatDoorZCB7
import Derived.Test.YtlhpfhnbeagnaaaGreatDoorZCB8
import Derived.Test.YtlhpfhnbeagnaaaGreatDoorZCB9
namespace Go.Proofs.YtlhpfhnbeagnaaaGreatDoor
open Go.ChangeShapes Go.WideShapes Go.ChangeAt Go.RowKit
theorem own : ownKnob Tryz.prog.godebug = none := by kernel_rfl
theorem gTab : Tryz.prog.globalNamed "internal/strconv.uint64pow10" = some 3 := by kernel_rfl
theorem gTabT : (Tryz.prog.globals[3]?).map (·.type) = some 269 := by kernel_rfl
theorem cellsTab : Tryz.prog.cellsOf 269 = 20 := by kernel_rfl
theorem cellsU64 : Tryz.prog.cellsOf 153 = 1 := by kernel_rfl
theorem gRng : Tryz.prog.globalNamed "strconv.ErrRange" = some 7 := by kernel_rfl
theorem gRngT : (Tryz.prog.globals[7]?).map (·.type) = some 202 := by kernel_rfl
theorem gSyn : Tryz.prog.globalNamed "strconv.ErrSyntax" = some 6 := by kernel_rfl
theorem gSynT : (Tryz.prog.globals[6]?).map (·.type) = some 202 := by kernel_rfl
theorem starE : "*" ++ "errors.errorString" = "*errors.errorString" := by decide
theorem rowE (u : TypeId) (h : Tryz.prog.typeName? 3 u = some "*errors.errorString") : u = 280 :=
  typeName_ptr_named (nm := "errors.errorString") (by rw [starE]; kernel_rfl) (by kernel_rfl) (by decide) u (by rw [starE]; exact h)
theorem cellsErr : Tryz.prog.cellsOf 282 = 1 := by kernel_rfl
theorem cellsStr : Tryz.prog.cellsOf 9 = 1 := by kernel_rfl
theorem glob_of {W : World} (hs : W.ShapedOpen Tryz.prog) (hL : laidMetH Tryz.prog Rows.cutsetFailsRow.laid W) : Glob W := by
  have hP : laidMet Tryz.prog Rows.cutsetFailsRow.laid W := by
    rw [← MakeChecks.laidMetH_plain _ _ _ (by kernel_rfl)]; exact hL
  have hP2 := hP.tail.tail
  have hP4 := hP2.tail.tail
  have hP5 := hP4.tail
  obtain ⟨a0, _, h0, _⟩ := laid_sentinel hP4 gRng gRngT Tryz.underlying202 rowE Tryz.underlying280 Tryz.underlying282 rfl rfl Tryz.underlying9 cellsErr cellsStr
  obtain ⟨a1, _, h1, _⟩ := laid_sentinel hP5 gSyn gSynT Tryz.underlying202 rowE Tryz.underlying280 Tryz.underlying282 rfl rfl Tryz.underlying9 cellsErr cellsStr
  exact ⟨cell_of_shapedOpen_int (zero := #[.int .i64 0]) (t := 3) hs (of_decide_eq_true (by kernel_rfl)) (by kernel_rfl) rfl (by kernel_rfl) (by kernel_rfl) Tryz.underlying3,
    Lib.tabIs_of_head gTab gTabT Tryz.underlying269 Tryz.underlying153 cellsU64 cellsTab hP2, ⟨_, _, h1⟩, ⟨_, _, h0⟩⟩
def flatD : Nat → DataW Unit → List Value
  | _ + 1, .lit (.int k z) => [.int k z]
  | n + 1, .agg ds => ds.flatMap (flatD n)
  | _, _ => []
def putC (cs : List Value) : Obj → Obj
  | .cells _ t frozen => .cells ⟨cs⟩ t frozen
  | o => o
noncomputable def lowB : Nat := (World.holding Tryz.prog default ⟨#[], #[], []⟩).heap.size
def rngS : ByteArray := ⟨#[118, 97, 108, 117, 101, 32, 111, 117, 116, 32, 111, 102, 32, 114, 97, 110, 103, 101]⟩
def synS : ByteArray := ⟨#[105, 110, 118, 97, 108, 105, 100, 32, 115, 121, 110, 116, 97, 120]⟩
noncomputable def laidWorld (os : Os) : World :=
  let w0 := World.holding Tryz.prog os ⟨#[.cells #[.string rngS] 282, .cells #[.string synS] 282], #[], []⟩
  { w0 with heap := (((((((w0.heap.modify 0 (putC (flatD 3 Rows.laid_math_bits_deBruijn32tab))).modify 1 (putC (flatD 3 Rows.laid_math_bits_deBruijn64tab))).modify
      3 (putC (flatD 3 Rows.laid_internal_strconv_uint64pow10))).modify 5 (putC (flatD 3 Rows.laid_unicode_utf8_acceptRanges))).modify
      7 (putC [.iface 280 (.pointer (some ⟨lowB, 0, none⟩))])).modify 6 (putC [.iface 280 (.pointer (some ⟨lowB + 1, 0, none⟩))])).modify
      4 (putC (flatD 3 Rows.laid_unicode_utf8_first))) }
theorem laid_met (os : Os) (args : Array Value) : laidMet Tryz.prog Rows.cutsetFailsRow.laid ((laidWorld os).forCall (fun _ _ => 0) ⟨#[], args, []⟩).memory :=
  laidMet_of_run' 8 (by kernel_rfl) (by kernel_rfl)
end Go.Proofs.YtlhpfhnbeagnaaaGreatDoor
namespace Go.Proofs.YtlhpfhnbeagnaaaGreatDoor
open Go.RowKit Go.ChangeShapes Go.WideShapes Go.Joins Go.Deep
theorem laidOut : laidOutB Tryz.prog = true := by kernel_rfl
theorem cellsOfInt : Tryz.prog.cellsOf 3 = 1 := by kernel_rfl
theorem cellsOfSli : Tryz.prog.cellsOf 25 = 1 := by kernel_rfl
theorem cellsOfGt : Tryz.prog.cellsOf 99 = 3 := by kernel_rfl
theorem list3 {α : Type} {l : List α} (h : l.length = 3) : ∃ a b c, l = [a, b, c] := by
  match l, h with
  | [a, b, c], _ => exact ⟨a, b, c, rfl⟩
section
variable {H : Type} {enc : TypeId × Value → H} {w : World} {base : Nat} {spare : Nat → Bool} {held : Bool}
theorem open_cellsI {a : Addr} {len : Nat} (h : ∀ i, i < len → ∃ cs' n x, w.cells? base (a.add (i * 1)) 1 = some cs' ∧ DataW.trod enc Tryz.prog w base spare held n 3 cs' = some x) : ∃ l : List Int, l.length = len ∧ CellsI w (some a) l := by
  have key : ∀ i, i < len → ∃ y : Int, w.cell? (a.add (i * 1)) = some (.int .i64 y) := fun i hi => by
    obtain ⟨cs', n, x, h1, h2⟩ := h i hi
    obtain ⟨y, rfl, _, _⟩ := DataW.trod_int Tryz.underlying3 h2
    obtain ⟨_, _, hc⟩ := World.cells?_some h1
    have c0 := hc 0 (by omega)
    refine ⟨y, ?_⟩
    have e : (a.add (i * 1)).add 0 = a.add (i * 1) := by simp [Addr.add]
    rw [e] at c0
    exact c0
  obtain ⟨f, hf⟩ := choose_lt (α := Int) key
  refine ⟨(List.range len).map f, by simp, fun i hi => ?_⟩
  have hi' : i < len := by simpa using hi
  have h1 := hf i hi'
  have hp : ((List.range len).map f).getD i 0 = f i := by simp [List.getD, hi']
  rw [hp]
  obtain ⟨b, off, spot⟩ := a
  have hs : spot = none := by
    have h0 := World.cell?_spot (hf 0 (by omega))
    simpa [Addr.add] using h0
  subst hs
  rw [Addr.add_lit, Nat.mul_one] at h1
  exact ⟨b, off, rfl, h1⟩
theorem open_sli {fuel : Nat} {v : Value} {x : DataW H × List MemPlace} (hf : DataW.trod enc Tryz.prog w base spare held fuel 25 [v] = some x) : ∃ l : List Int, SliceI w v l := by
  rcases open_slice Tryz.underlying25 hf with ⟨h1, _⟩ | ⟨a, len, cap, m, n, D, Pl, h1, hb, hl, hm, hmm, _, hx⟩
  · simp at h1
    exact ⟨[], none, 0, h1, fun i hi => by simp at hi, by simp, by simp⟩
  · simp at h1
    rw [cellsOfInt] at hx
    have hlm : len ≤ m := by rw [hmm]; split <;> omega
    obtain ⟨l, hll, hc⟩ := open_cellsI (enc := enc) (spare := spare) (held := held) (w := w) (base := base) (a := a) (len := len) (fun i hi => by
      obtain ⟨cs', h2, h3⟩ := hx i (by omega)
      exact ⟨cs', n, _, h2, h3⟩)
    exact ⟨l, some a, cap, by rw [h1, hll], hc, by rw [hll]; exact hl, hm⟩
set_option maxRecDepth 100000 in
theorem open_ints {r : Reach} {b0 : Nat} {v : Value} {d : DataW H} {p : List MemPlace} (hv : Value.okWide Tryz.prog w r b0 25 v) (h : DataW.Trod enc Tryz.prog w base spare held 25 v d p) : ∃ l : List Int, SliceI w v l := by
  have key : v.cells.toList = [v] := by
    simp only [Value.okWide, Tryz.underlying25] at hv
    cases v <;> first | rfl | (simp [Cell.okWide, Cell.ok, Tryz.underlying25] at hv)
  obtain ⟨fuel, hf⟩ := h
  rw [key] at hf
  exact open_sli hf
theorem open_gate {fuel : Nat} {cs : List Value} {x : DataW H × List MemPlace} (h : DataW.trod enc Tryz.prog w base spare held fuel 99 cs = some x) : ∃ (v : Value) (g : Gt), cs = [.int .i64 g.kind, .int .i64 g.need, v] ∧ SliceI w v g.args := by
  obtain ⟨y0, y1, y2, n, _, hl, h0, h1, h2⟩ := trod_struct3 Tryz.underlying99 h
  rw [cellsOfGt] at hl
  obtain ⟨a, b, c, rfl⟩ := list3 hl
  rw [cellsOfInt] at h0
  rw [cellsOfInt] at h1
  rw [cellsOfSli] at h2
  obtain ⟨i, e1, _, _⟩ := DataW.trod_int Tryz.underlying3 h0
  obtain ⟨j, e2, _, _⟩ := DataW.trod_int Tryz.underlying3 h1
  obtain ⟨l, hv⟩ := open_sli (v := c) (by simpa using h2)
  simp at e1 e2
  subst e1; subst e2
  exact ⟨c, ⟨i, j, l⟩, rfl, hv⟩
theorem open_gates {a : Addr} {len : Nat} (h : ∀ i, i < len → ∃ cs' n x, w.cells? base (a.add (i * 3)) 3 = some cs' ∧ DataW.trod enc Tryz.prog w base spare held n 99 cs' = some x) : ∃ l : List Gt, l.length = len ∧ CellsG w (some a) l := by
  have key : ∀ i, i < len → ∃ y : Value × Gt, w.cell? (a.add (i * 3)) = some (.int .i64 y.2.kind) ∧ w.cell? ((a.add (i * 3)).add 1) = some (.int .i64 y.2.need) ∧ w.cell? ((a.add (i * 3)).add 2) = some y.1 ∧ SliceI w y.1 y.2.args := fun i hi => by
    obtain ⟨cs', n, x, h1, h2⟩ := h i hi
    obtain ⟨v, y, rfl, hv⟩ := open_gate h2
    obtain ⟨_, _, hc⟩ := World.cells?_some h1
    have c0 := hc 0 (by omega)
    have c1 := hc 1 (by omega)
    have c2 := hc 2 (by omega)
    refine ⟨(v, y), ?_, c1, c2, hv⟩
    have e : (a.add (i * 3)).add 0 = a.add (i * 3) := by simp [Addr.add]
    rw [e] at c0
    exact c0
  haveI : Inhabited (Value × Gt) := ⟨(undef, gt0)⟩
  obtain ⟨f, hf⟩ := choose_lt (α := Value × Gt) key
  have hs : 0 < len → a.spot = none := fun h0 => by
    have h0 := World.cell?_spot (hf 0 h0).1
    simpa [Addr.add] using h0
  refine ⟨(List.range len).map fun i => (f i).2, by simp, fun i hi => ?_⟩
  have hi' : i < len := by simpa using hi
  obtain ⟨h1, h2, h3, h4⟩ := hf i hi'
  have hp : ((List.range len).map fun i => (f i).2).getD i gt0 = (f i).2 := by simp [List.getD, hi']
  rw [hp]
  obtain ⟨b, off, spot⟩ := a
  have hs := hs (by omega)
  dsimp only at hs
  subst hs
  rw [Addr.add_lit] at h1 h2 h3
  rw [Addr.add_lit] at h2 h3
  exact ⟨b, off, _, rfl, h1, h2, h3, h4⟩
set_option maxRecDepth 100000 in
theorem open_tree {r : Reach} {b0 : Nat} {v : Value} {d : DataW H} {p : List MemPlace} (hv : Value.okWide Tryz.prog w r b0 24 v) (h : DataW.Trod enc Tryz.prog w base spare held 24 v d p) :
    ∃ t a cap, v = treeV t a cap ∧ TreeG w t a cap ∧ (-9223372036854775808 ≤ t.ev ∧ t.ev ≤ 9223372036854775807) := by
  obtain ⟨c0, c1, y0, y1, n, rfl, _, _, h0, h1⟩ := open_agg2 Tryz.underlying24 (by kernel_rfl) (by kernel_rfl) hv h
  obtain ⟨ev, e1, _, hw⟩ := DataW.trod_int Tryz.underlying3 h0
  simp at e1
  subst e1
  have hw : -9223372036854775808 ≤ ev ∧ ev ≤ 9223372036854775807 := by
    simp only [Lit.wf, Bool.and_eq_true, decide_eq_true_eq] at hw
    exact hw
  rcases open_slice Tryz.underlying22 h1 with ⟨h1, _⟩ | ⟨a, len, cap, m, n, D, Pl, h1, hb, hl, hm, hmm, _, hx⟩
  · simp at h1
    subst h1
    exact ⟨⟨ev, []⟩, none, 0, rfl, ⟨fun i hi => by simp at hi, Nat.le_refl _, Nat.zero_le _⟩, hw⟩
  · simp at h1
    rw [cellsOfGt] at hx
    have hlm : len ≤ m := by rw [hmm]; split <;> omega
    obtain ⟨l, hll, hc⟩ := open_gates (enc := enc) (spare := spare) (held := held) (w := w) (base := base) (a := a) (len := len) (fun i hi => by
      obtain ⟨cs', h2, h3⟩ := hx i (by omega)
      exact ⟨cs', n, _, h2, h3⟩)
    subst h1
    exact ⟨⟨ev, l⟩, some a, cap, by unfold treeV; rw [hll], ⟨hc, by show l.length ≤ cap; rw [hll]; exact hl, hm⟩, hw⟩
end
end Go.Proofs.YtlhpfhnbeagnaaaGreatDoor
namespace Go.Proofs.YtlhpfhnbeagnaaaGreatDoor
open Go.RowKit Go.ChangeShapes Go.WideShapes Go.ChangeAt
theorem band {a b : Bool} (h : a = true) (k : b = true) : (a && b) = true := by rw [h, k]; rfl
theorem factLaid : laidOutB Tryz.pinned.checked.prog = true := by kernel_rfl
theorem factMaps : mapsRowed Tryz.pinned.checked.prog = true := by kernel_rfl
theorem factHeard : Tryz.pinned.checked.prog.stopsHeard = true := by kernel_rfl
theorem factEnter : Tryz.pinned.checked.prog.mayEnter = true := by kernel_rfl
theorem factLifts : (Rows.cutsetFailsRow.lifted == Tryz.pinned.checked.prog.liftsFinal) = true := by kernel_rfl
theorem factMake : (Tryz.pinned.checked.prog.make == some Rows.cutsetFailsRow.make) = true := by kernel_rfl
theorem factKeys : (Rows.cutsetFailsRow.plainKeys == Tryz.pinned.checked.prog.plainKeys) = true := by kernel_rfl
theorem gBru : Tryz.prog.globalNamed "math/bits.deBruijn64tab" = some 1 := by kernel_rfl
theorem gBruT : (Tryz.prog.globals[1]?).map (·.type) = some 183 := by kernel_rfl
theorem cellsBru : Tryz.prog.cellsOf 183 = 64 := by kernel_rfl
theorem cellsU8 : Tryz.prog.cellsOf 5 = 1 := by kernel_rfl
set_option maxRecDepth 100000 in
theorem tabC_of {W : World} (hL : laidMetH Tryz.prog Rows.cutsetFailsRow.laid W) : TabC W := by
  have hP : laidMet Tryz.prog Rows.cutsetFailsRow.laid W := by
    rw [← MakeChecks.laidMetH_plain _ _ _ (by kernel_rfl)]; exact hL
  have hP1 := hP.tail
  have h : Lib.TabIs Tryz.prog W "math/bits.deBruijn64tab" .u8 (Lib.deBruijn64tab.map fun (n : Nat) => (n : Int)) := Lib.tabIs_of_head gBru gBruT Tryz.underlying183 Tryz.underlying5 cellsU8 cellsBru hP1
  intro j hj
  unfold Lib.TabIs at h
  rw [World.var?_cell gBru h j]
  rw [List.getElem?_toArray, List.getElem?_map, List.getElem?_map, List.getElem?_eq_getElem hj, List.getD_eq_getElem?_getD, List.getElem?_eq_getElem hj]
  rfl
end Go.Proofs.YtlhpfhnbeagnaaaGreatDoor
