/- Steps of the proof: Cut1, Shelf, FGiv, COpen, CJoin, CDua, CDul, CTur, CRDu. No conditions. -/
import Derived.Shelf.Strings.Builder1
import Derived.Shelf.Strings.Builder2
import Derived.Shelf.Strings.Trim
import Derived.Shelf.Small.Utf8
import Derived.Shelf.Small.Bits
import Derived.Shelf.Small.Strs
import Derived.Shelf.Small.Wraps
import Derived.Shelf.Strings.BuilderF
import Derived.Shelf.Strings.BuilderK
import Derived.Shelf.Strings.Builder2Cap
import Derived.Shelf.Strconv.Itoa0
import Derived.Shelf.Strconv.Itoa1
import Derived.Shelf.LaysM
import Derived.Shelf.Strconv.Itoa2
import Derived.Shelf.Strconv.Itoa3
import Derived.Shelf.Strconv.Clone
import Derived.Shelf.Strconv.SyntaxError
import Derived.Shelf.LaysC
import Derived.Shelf.Strconv.ToError
import Derived.Shelf.Strconv.Lower
import Derived.Shelf.Strconv.ParseUint10
import Derived.Shelf.Strconv.ParseUint10Empty
import Derived.Shelf.Strconv.ParseUint10Any
import Derived.Shelf.Strconv.RangeError
import Derived.Shelf.Strconv.ToErrorRange
import Derived.Shelf.Strconv.ParseUintEmpty
import Derived.Shelf.Strconv.ParseUint10b64
import Derived.Shelf.Strconv.ParseUint10b32
import Derived.Shelf.Strconv.ParseUint10b16
import Derived.Shelf.Strconv.ParseUint10b8
import Derived.Shelf.Strconv.ParseUint10At
import Derived.Ground.MpProg
import Derived.Shelf.Pu.ParseUintPublic10
import Derived.Shelf.Pu.ErrVarParseUint
import Derived.Shelf.Strings.Search1
import Derived.Shelf.Strings.Search2
import Derived.Shelf.Strings.Cut
import Derived.Shelf.Strings.Shaped
import Derived.Shelf.Strings.Prefix
import Derived.Shelf.Unicode.Decode
import Derived.Shelf.Strings.Runes
import Derived.Shelf.Strings.AsciiSet
import Derived.Shelf.Bits.Mul64
import Derived.Shelf.Strings.Repeat
import Derived.Shelf.Unicode.DecodeSlow
import Derived.Shelf.Unicode.DecodeAny
import Derived.Shelf.Unicode.DecodeLast
import Derived.Shelf.Strings.BuilderCap
import Derived.Shelf.Slices.Turned
import Derived.Shelf.Slices.Equal
import Derived.Ground.Names2Prog
import Derived.Shelf.Slices.Clone
import Derived.Shelf.Slices.SearchI
import Derived.Shelf.Slices.Delete
import Derived.Shelf.Slices.Cells
import Derived.Shelf.Slices.Empties
import Derived.Shelf.Slices.Empties2
import Derived.Ground.SlgnProg
import Derived.Shelf.SlicesE.Reverse
import Derived.Shelf.SlicesE.Clone
import Derived.Ground.SlsfProg
import Derived.Shelf.SlSortCmp.Insertion
import Derived.Shelf.SlSortCmp.SiftDown1
import Derived.Shelf.SlSortCmp.HeapSort1
import Derived.Shelf.SlSortCmp.Insertion1
import Derived.Shelf.SlSortCmp.Median1
import Derived.Shelf.SlSortCmp.Pivot1
import Derived.Shelf.SlSortCmp.ReverseRange1
import Derived.Shelf.SlSortCmp.PartialInsertion1
import Derived.Shelf.SlSortCmp.PartitionEqual1
import Derived.Shelf.SlSortCmp.Partition1
import Derived.Shelf.SlSortCmp.Pdq1
import Derived.Shelf.SlSortCmp.Whole1
import Derived.Test.YtlhpfhnbeagnaaaGreatDoorProg
import Derived.Test.YtlhpfhnbeagnaaaGreatDoorCards
import Derived.Test.YtlhpfhnbeagnaaaGreatDoorTie
import Derived.WalkKit
import Derived.ProofKit
import Derived.OpenShut
import Derived.Deep.DeepHandedRow
import Derived.Lib.LaidTab
import Derived.LaidSub
import Derived.Stop.LaidErr
import Derived.MakeChecks
import Derived.Lib.SmallJoins
import Derived.Deep.Slices
import Derived.Deep.Strs
import Derived.SliceStrings
import Derived.FnData
import Derived.Laws.ResultCell
import Derived.Test.YtlhpfhnbeagnaaaGreatDoorZCB1
import Derived.Test.YtlhpfhnbeagnaaaGreatDoorZCB2
import Derived.Test.YtlhpfhnbeagnaaaGreatDoorZCB3
import Derived.Test.YtlhpfhnbeagnaaaGreatDoorZCB4
import Derived.Test.YtlhpfhnbeagnaaaGreatDoorZCB5
import Derived.Test.YtlhpfhnbeagnaaaGreatDoorZCB6
import Derived.Test.YtlhpfhnbeagnaaaGreatDoorZCB7
import Derived.Test.YtlhpfhnbeagnaaaGreatDoorZCB8
import Derived.Test.YtlhpfhnbeagnaaaGreatDoorZCB9
namespace Go.Proofs.YtlhpfhnbeagnaaaGreatDoor
def dualG (g : Gt) : Gt := ⟨if g.kind = 2 then 2 else 1 - g.kind, if g.kind = 2 then (g.args.length : Int) + 1 - g.need else 0, g.args⟩
def dualT (t : Tr) : Tr := ⟨t.ev, t.gates.map dualG⟩
end Go.Proofs.YtlhpfhnbeagnaaaGreatDoor
namespace Go.Proofs
open Go.Shelf
def Tryz.laysNm215_ren : Go.Shelf.Ren := ⟨fun | 15 => 32 | n => n, fun | 22 => 25 | 3 => 3 | 4 => 4 | n => n, fun | n => n⟩
theorem Tryz.laysNm215 : Go.Proofs.Lays2.n15 Tryz.prog Tryz.laysNm215_ren := {
  mixed := by kernel_rfl
  f15 := Tryz.func32.trans (congrArg some (by kernel_rfl))
  t3 := Tryz.underlying3
  a3 := Tryz.isAgg3
  z3 := Tryz.sizeOf3
  v3 := Tryz.zeroValue3
  t4 := Tryz.underlying4
  a4 := Tryz.isAgg4
  z4 := Tryz.sizeOf4
  v4 := Tryz.zeroValue4
  t22 := Tryz.underlying25
  a22 := Tryz.isAgg25
  z22 := Tryz.sizeOf25
  v22 := Tryz.zeroValue25
  i3 := by kernel_rfl }
open Go.RowKit Go.Lib in
theorem Tryz.slices_Clone_int_nil (n c : Nat) (w : World) :
    Calls Tryz.prog 32 #[.slice none n c] w fun e w' => e = .returned (.slice none 0 0) ∧ w' = w := Any.slices_Clone_int_nil Tryz.laysNm215 n c w
end Go.Proofs
namespace Go.Proofs.YtlhpfhnbeagnaaaGreatDoor
open Go.ChangeShapes Go.WideShapes Go.ChangeAt Go.RowKit
theorem own : ownKnob Tryz.prog.godebug = none := by kernel_rfl
theorem gTab : Tryz.prog.globalNamed "internal/strconv.uint64pow10" = some 3 := by kernel_rfl
theorem gTabT : (Tryz.prog.globals[3]?).map (·.type) = some 269 := by kernel_rfl
theorem cellsTab : Tryz.prog.cellsOf 269 = 20 := by kernel_rfl
theorem cellsU64 : Tryz.prog.cellsOf 153 = 1 := by kernel_rfl
theorem gRng : Tryz.prog.globalNamed "strconv.ErrRange" = some 7 := by kernel_rfl
theorem gRngT : (Tryz.prog.globals[7]?).map (·.type) = some 202 := by kernel_rfl
theorem gSyn : Tryz.prog.globalNamed "strconv.ErrSyntax" = some 6 := by kernel_rfl
theorem gSynT : (Tryz.prog.globals[6]?).map (·.type) = some 202 := by kernel_rfl
theorem starE : "*" ++ "errors.errorString" = "*errors.errorString" := by decide
theorem rowE (u : TypeId) (h : Tryz.prog.typeName? 3 u = some "*errors.errorString") : u = 280 :=
  typeName_ptr_named (nm := "errors.errorString") (by rw [starE]; kernel_rfl) (by kernel_rfl) (by decide) u (by rw [starE]; exact h)
theorem cellsErr : Tryz.prog.cellsOf 282 = 1 := by kernel_rfl
theorem cellsStr : Tryz.prog.cellsOf 9 = 1 := by kernel_rfl
theorem glob_of {W : World} (hs : W.ShapedOpen Tryz.prog) (hL : laidMetH Tryz.prog Rows.cutsetFailsRow.laid W) : Glob W := by
  have hP : laidMet Tryz.prog Rows.cutsetFailsRow.laid W := by
    rw [← MakeChecks.laidMetH_plain _ _ _ (by kernel_rfl)]; exact hL
  have hP2 := hP.tail.tail
  have hP4 := hP2.tail.tail
  have hP5 := hP4.tail
  obtain ⟨a0, _, h0, _⟩ := laid_sentinel hP4 gRng gRngT Tryz.underlying202 rowE Tryz.underlying280 Tryz.underlying282 rfl rfl Tryz.underlying9 cellsErr cellsStr
  obtain ⟨a1, _, h1, _⟩ := laid_sentinel hP5 gSyn gSynT Tryz.underlying202 rowE Tryz.underlying280 Tryz.underlying282 rfl rfl Tryz.underlying9 cellsErr cellsStr
  exact ⟨cell_of_shapedOpen_int (zero := #[.int .i64 0]) (t := 3) hs (of_decide_eq_true (by kernel_rfl)) (by kernel_rfl) rfl (by kernel_rfl) (by kernel_rfl) Tryz.underlying3,
    Lib.tabIs_of_head gTab gTabT Tryz.underlying269 Tryz.underlying153 cellsU64 cellsTab hP2, ⟨_, _, h1⟩, ⟨_, _, h0⟩⟩
def flatD : Nat → DataW Unit → List Value
  | _ + 1, .lit (.int k z) => [.int k z]
  | n + 1, .agg ds => ds.flatMap (flatD n)
  | _, _ => []
def putC (cs : List Value) : Obj → Obj
  | .cells _ t frozen => .cells ⟨cs⟩ t frozen
  | o => o
noncomputable def lowB : Nat := (World.holding Tryz.prog default ⟨#[], #[], []⟩).heap.size
def rngS : ByteArray := ⟨#[118, 97, 108, 117, 101, 32, 111, 117, 116, 32, 111, 102, 32, 114, 97, 110, 103, 101]⟩
def synS : ByteArray := ⟨#[105, 110, 118, 97, 108, 105, 100, 32, 115, 121, 110, 116, 97, 120]⟩
noncomputable def laidWorld (os : Os) : World :=
  let w0 := World.holding Tryz.prog os ⟨#[.cells #[.string rngS] 282, .cells #[.string synS] 282], #[], []⟩
  { w0 with heap := (((((((w0.heap.modify 0 (putC (flatD 3 Rows.laid_math_bits_deBruijn32tab))).modify 1 (putC (flatD 3 Rows.laid_math_bits_deBruijn64tab))).modify
      3 (putC (flatD 3 Rows.laid_internal_strconv_uint64pow10))).modify 5 (putC (flatD 3 Rows.laid_unicode_utf8_acceptRanges))).modify
      7 (putC [.iface 280 (.pointer (some ⟨lowB, 0, none⟩))])).modify 6 (putC [.iface 280 (.pointer (some ⟨lowB + 1, 0, none⟩))])).modify
      4 (putC (flatD 3 Rows.laid_unicode_utf8_first))) }
theorem laid_met (os : Os) (args : Array Value) : laidMet Tryz.prog Rows.cutsetFailsRow.laid ((laidWorld os).forCall (fun _ _ => 0) ⟨#[], args, []⟩).memory :=
  laidMet_of_run' 8 (by kernel_rfl) (by kernel_rfl)
end Go.Proofs.YtlhpfhnbeagnaaaGreatDoor
namespace Go.Proofs.YtlhpfhnbeagnaaaGreatDoor
open Go.RowKit Go.ChangeShapes Go.WideShapes Go.Joins Go.Deep
theorem laidOut : laidOutB Tryz.prog = true := by kernel_rfl
theorem cellsOfInt : Tryz.prog.cellsOf 3 = 1 := by kernel_rfl
theorem cellsOfSli : Tryz.prog.cellsOf 25 = 1 := by kernel_rfl
theorem cellsOfGt : Tryz.prog.cellsOf 99 = 3 := by kernel_rfl
theorem list3 {α : Type} {l : List α} (h : l.length = 3) : ∃ a b c, l = [a, b, c] := by
  match l, h with
  | [a, b, c], _ => exact ⟨a, b, c, rfl⟩
section
variable {H : Type} {enc : TypeId × Value → H} {w : World} {base : Nat} {spare : Nat → Bool} {held : Bool}
theorem open_cellsI {a : Addr} {len : Nat} (h : ∀ i, i < len → ∃ cs' n x, w.cells? base (a.add (i * 1)) 1 = some cs' ∧ DataW.trod enc Tryz.prog w base spare held n 3 cs' = some x) : ∃ l : List Int, l.length = len ∧ CellsI w (some a) l := by
  have key : ∀ i, i < len → ∃ y : Int, w.cell? (a.add (i * 1)) = some (.int .i64 y) := fun i hi => by
    obtain ⟨cs', n, x, h1, h2⟩ := h i hi
    obtain ⟨y, rfl, _, _⟩ := DataW.trod_int Tryz.underlying3 h2
    obtain ⟨_, _, hc⟩ := World.cells?_some h1
    have c0 := hc 0 (by omega)
    refine ⟨y, ?_⟩
    have e : (a.add (i * 1)).add 0 = a.add (i * 1) := by simp [Addr.add]
    rw [e] at c0
    exact c0
  obtain ⟨f, hf⟩ := choose_lt (α := Int) key
  refine ⟨(List.range len).map f, by simp, fun i hi => ?_⟩
  have hi' : i < len := by simpa using hi
  have h1 := hf i hi'
  have hp : ((List.range len).map f).getD i 0 = f i := by simp [List.getD, hi']
  rw [hp]
  obtain ⟨b, off, spot⟩ := a
  have hs : spot = none := by
    have h0 := World.cell?_spot (hf 0 (by omega))
    simpa [Addr.add] using h0
  subst hs
  rw [Addr.add_lit, Nat.mul_one] at h1
  exact ⟨b, off, rfl, h1⟩
theorem open_sli {fuel : Nat} {v : Value} {x : DataW H × List MemPlace} (hf : DataW.trod enc Tryz.prog w base spare held fuel 25 [v] = some x) : ∃ l : List Int, SliceI w v l := by
  rcases open_slice Tryz.underlying25 hf with ⟨h1, _⟩ | ⟨a, len, cap, m, n, D, Pl, h1, hb, hl, hm, hmm, _, hx⟩
  · simp at h1
    exact ⟨[], none, 0, h1, fun i hi => by simp at hi, by simp, by simp⟩
  · simp at h1
    rw [cellsOfInt] at hx
    have hlm : len ≤ m := by rw [hmm]; split <;> omega
    obtain ⟨l, hll, hc⟩ := open_cellsI (enc := enc) (spare := spare) (held := held) (w := w) (base := base) (a := a) (len := len) (fun i hi => by
      obtain ⟨cs', h2, h3⟩ := hx i (by omega)
      exact ⟨cs', n, _, h2, h3⟩)
    exact ⟨l, some a, cap, by rw [h1, hll], hc, by rw [hll]; exact hl, hm⟩
theorem open_gate {fuel : Nat} {cs : List Value} {x : DataW H × List MemPlace} (h : DataW.trod enc Tryz.prog w base spare held fuel 99 cs = some x) : ∃ (v : Value) (g : Gt), cs = [.int .i64 g.kind, .int .i64 g.need, v] ∧ SliceI w v g.args := by
  obtain ⟨y0, y1, y2, n, _, hl, h0, h1, h2⟩ := trod_struct3 Tryz.underlying99 h
  rw [cellsOfGt] at hl
  obtain ⟨a, b, c, rfl⟩ := list3 hl
  rw [cellsOfInt] at h0
  rw [cellsOfInt] at h1
  rw [cellsOfSli] at h2
  obtain ⟨i, e1, _, _⟩ := DataW.trod_int Tryz.underlying3 h0
  obtain ⟨j, e2, _, _⟩ := DataW.trod_int Tryz.underlying3 h1
  obtain ⟨l, hv⟩ := open_sli (v := c) (by simpa using h2)
  simp at e1 e2
  subst e1; subst e2
  exact ⟨c, ⟨i, j, l⟩, rfl, hv⟩
theorem open_gates {a : Addr} {len : Nat} (h : ∀ i, i < len → ∃ cs' n x, w.cells? base (a.add (i * 3)) 3 = some cs' ∧ DataW.trod enc Tryz.prog w base spare held n 99 cs' = some x) : ∃ l : List Gt, l.length = len ∧ CellsG w (some a) l := by
  have key : ∀ i, i < len → ∃ y : Value × Gt, w.cell? (a.add (i * 3)) = some (.int .i64 y.2.kind) ∧ w.cell? ((a.add (i * 3)).add 1) = some (.int .i64 y.2.need) ∧ w.cell? ((a.add (i * 3)).add 2) = some y.1 ∧ SliceI w y.1 y.2.args := fun i hi => by
    obtain ⟨cs', n, x, h1, h2⟩ := h i hi
    obtain ⟨v, y, rfl, hv⟩ := open_gate h2
    obtain ⟨_, _, hc⟩ := World.cells?_some h1
    have c0 := hc 0 (by omega)
    have c1 := hc 1 (by omega)
    have c2 := hc 2 (by omega)
    refine ⟨(v, y), ?_, c1, c2, hv⟩
    have e : (a.add (i * 3)).add 0 = a.add (i * 3) := by simp [Addr.add]
    rw [e] at c0
    exact c0
  haveI : Inhabited (Value × Gt) := ⟨(undef, gt0)⟩
  obtain ⟨f, hf⟩ := choose_lt (α := Value × Gt) key
  have hs : 0 < len → a.spot = none := fun h0 => by
    have h0 := World.cell?_spot (hf 0 h0).1
    simpa [Addr.add] using h0
  refine ⟨(List.range len).map fun i => (f i).2, by simp, fun i hi => ?_⟩
  have hi' : i < len := by simpa using hi
  obtain ⟨h1, h2, h3, h4⟩ := hf i hi'
  have hp : ((List.range len).map fun i => (f i).2).getD i gt0 = (f i).2 := by simp [List.getD, hi']
  rw [hp]
  obtain ⟨b, off, spot⟩ := a
  have hs := hs (by omega)
  dsimp only at hs
  subst hs
  rw [Addr.add_lit] at h1 h2 h3
  rw [Addr.add_lit] at h2 h3
  exact ⟨b, off, _, rfl, h1, h2, h3, h4⟩
set_option maxRecDepth 100000 in
theorem open_tree {r : Reach} {b0 : Nat} {v : Value} {d : DataW H} {p : List MemPlace} (hv : Value.okWide Tryz.prog w r b0 24 v) (h : DataW.Trod enc Tryz.prog w base spare held 24 v d p) :
    ∃ t a cap, v = treeV t a cap ∧ TreeG w t a cap ∧ (-9223372036854775808 ≤ t.ev ∧ t.ev ≤ 9223372036854775807) := by
  obtain ⟨c0, c1, y0, y1, n, rfl, _, _, h0, h1⟩ := open_agg2 Tryz.underlying24 (by kernel_rfl) (by kernel_rfl) hv h
  obtain ⟨ev, e1, _, hw⟩ := DataW.trod_int Tryz.underlying3 h0
  simp at e1
  subst e1
  have hw : -9223372036854775808 ≤ ev ∧ ev ≤ 9223372036854775807 := by
    simp only [Lit.wf, Bool.and_eq_true, decide_eq_true_eq] at hw
    exact hw
  rcases open_slice Tryz.underlying22 h1 with ⟨h1, _⟩ | ⟨a, len, cap, m, n, D, Pl, h1, hb, hl, hm, hmm, _, hx⟩
  · simp at h1
    subst h1
    exact ⟨⟨ev, []⟩, none, 0, rfl, ⟨fun i hi => by simp at hi, Nat.le_refl _, Nat.zero_le _⟩, hw⟩
  · simp at h1
    rw [cellsOfGt] at hx
    have hlm : len ≤ m := by rw [hmm]; split <;> omega
    obtain ⟨l, hll, hc⟩ := open_gates (enc := enc) (spare := spare) (held := held) (w := w) (base := base) (a := a) (len := len) (fun i hi => by
      obtain ⟨cs', h2, h3⟩ := hx i (by omega)
      exact ⟨cs', n, _, h2, h3⟩)
    subst h1
    exact ⟨⟨ev, l⟩, some a, cap, by unfold treeV; rw [hll], ⟨hc, by show l.length ≤ cap; rw [hll]; exact hl, hm⟩, hw⟩
end
end Go.Proofs.YtlhpfhnbeagnaaaGreatDoor
namespace Go.Proofs.YtlhpfhnbeagnaaaGreatDoor
open Go.RowKit Go.ChangeShapes Go.WideShapes Go.ChangeAt
theorem band {a b : Bool} (h : a = true) (k : b = true) : (a && b) = true := by rw [h, k]; rfl
theorem factLaid : laidOutB Tryz.pinned.checked.prog = true := by kernel_rfl
theorem factMaps : mapsRowed Tryz.pinned.checked.prog = true := by kernel_rfl
theorem factHeard : Tryz.pinned.checked.prog.stopsHeard = true := by kernel_rfl
theorem factEnter : Tryz.pinned.checked.prog.mayEnter = true := by kernel_rfl
theorem factLifts : (Rows.cutsetFailsRow.lifted == Tryz.pinned.checked.prog.liftsFinal) = true := by kernel_rfl
theorem factMake : (Tryz.pinned.checked.prog.make == some Rows.cutsetFailsRow.make) = true := by kernel_rfl
theorem factKeys : (Rows.cutsetFailsRow.plainKeys == Tryz.pinned.checked.prog.plainKeys) = true := by kernel_rfl
theorem gBru : Tryz.prog.globalNamed "math/bits.deBruijn64tab" = some 1 := by kernel_rfl
theorem gBruT : (Tryz.prog.globals[1]?).map (·.type) = some 183 := by kernel_rfl
theorem cellsBru : Tryz.prog.cellsOf 183 = 64 := by kernel_rfl
theorem cellsU8 : Tryz.prog.cellsOf 5 = 1 := by kernel_rfl
set_option maxRecDepth 100000 in
theorem tabC_of {W : World} (hL : laidMetH Tryz.prog Rows.cutsetFailsRow.laid W) : TabC W := by
  have hP : laidMet Tryz.prog Rows.cutsetFailsRow.laid W := by
    rw [← MakeChecks.laidMetH_plain _ _ _ (by kernel_rfl)]; exact hL
  have hP1 := hP.tail
  have h : Lib.TabIs Tryz.prog W "math/bits.deBruijn64tab" .u8 (Lib.deBruijn64tab.map fun (n : Nat) => (n : Int)) := Lib.tabIs_of_head gBru gBruT Tryz.underlying183 Tryz.underlying5 cellsU8 cellsBru hP1
  intro j hj
  unfold Lib.TabIs at h
  rw [World.var?_cell gBru h j]
  rw [List.getElem?_toArray, List.getElem?_map, List.getElem?_map, List.getElem?_eq_getElem hj, List.getD_eq_getElem?_getD, List.getElem?_eq_getElem hj]
  rfl
end Go.Proofs.YtlhpfhnbeagnaaaGreatDoor
namespace Go.Proofs.YtlhpfhnbeagnaaaGreatDoor
open Go.RowKit
theorem wp_keyC {P : Program} {C : Code} {a0 : Act} {w : World} {Q : Exit → Act → World → Prop} (X : Act → Act → World → Prop) (h1 : ∀ a W, X a0 a W → Q .normal a W) (h2 : (∀ a W, X a0 a W → Q .normal a W) → C.wp P Q a0 w) : C.wp P Q a0 w := h2 h1
theorem run_appC_empty {P : Program} (w : World) (t ty e : TypeId) (i : TypeInfo) (ht : P.underlying t = some (.slice e)) (hi : P.info? e = some i) (g : Addr) (n cap : Nat) (hn : n ≤ cap) (a : Option Addr) (c : Nat) :
    (Builtin.append_ #[t, t] ty #[.slice (some g) n cap, .slice a 0 c]).run P w = .ok (.slice (some g) n cap) w := by
  cases a <;> simp [Builtin.append_, run_underlying ht, sizeOf, typeInfo, hi, hn, Builtin.lenOf, Builtin.firstCells, loadCells, storeCells, loadCellsFrom]
theorem cells_news {w : World} {b off : Nat} {l : List Int} (h : CellsI w (some ⟨b, off, none⟩) l) : ∀ j u, (vals l)[j]? = some u → w.cell? ((⟨b, off, none⟩ : Addr).add j) = some u := by
  intro j u hj
  have hjl : j < l.length := by
    have := (List.getElem?_eq_some_iff.1 hj).1
    simpa [vals] using this
  obtain ⟨b', off', e, c⟩ := h j hjl
  cases e
  rw [Addr.add_lit, c, ← hj]
  simp [vals, List.getD, hjl]
theorem copyC_run {w : World} {a : Option Addr} {l : List Int} (cap : Nat) (hc : CellsI w a l) (hl : l.length ≤ 100000) :
    ∃ v' w', (Builtin.append_ #[25, 25] 25 #[.slice (some ⟨w.heap.size, 0, none⟩) 0 0, .slice a l.length cap]).run Tryz.prog (w.alloc (.cells #[] 3)) = .ok v' w' ∧ OwnsI w' v' l ∧ (∀ b, v'.ownBlock = some b → w.heap.size ≤ b) ∧ Ext w w' := by
  obtain ⟨i0, hi, hi0, hi1, hi2⟩ := info_parts infoInt
  have E : Ext w (w.alloc (.cells #[] 3)) := (Ext.refl _).alloc _
  have hown : (w.alloc (.cells #[] 3)).ownsRow 0 3 1 (.slice (some ⟨w.heap.size, 0, none⟩) 0 0) 0 [] := World.ownsRow_lit w #[] 0 (Nat.zero_le _) (Nat.zero_le _) rfl
  have hv : ∀ b, (Value.slice (some ⟨w.heap.size, 0, none⟩) 0 0).ownBlock = some b → w.heap.size ≤ b := fun b hb => by have e : w.heap.size = b := Option.some.inj hb; omega
  by_cases h0 : l.length = 0
  · have hle : l = [] := List.eq_nil_of_length_eq_zero h0
    subst hle
    exact ⟨_, _, run_appC_empty _ _ _ _ i0 Tryz.underlying25 hi _ _ _ (Nat.le_refl _) _ _, hown, hv, E⟩
  · obtain ⟨b, off, rfl, _⟩ := hc 0 (by omega)
    have hvl : (vals l).length = l.length * 1 := by simp [vals]
    obtain ⟨v', w', hr, h2, he⟩ := run_append1 (P := Tryz.prog) (w.alloc (.cells #[] 3)) 25 25 3 i0 (.int .i64 0) 1 8 Tryz.underlying25 hi hi0 hi1 hi2 rfl (by decide) _ 0 [] hown ⟨b, off, none⟩ l.length cap (by omega) (vals l) hvl (cells_news (hc.ext E)) (by
      intro u hu
      obtain ⟨x, _, rfl⟩ := List.mem_map.1 hu
      rfl) (by unfold maxLen; omega) (by omega)
    refine ⟨v', w', hr, ?_, he.ge E.size hv, E.trans' (he.below E.size hv) (Nat.le_refl _)⟩
    unfold OwnsI
    rw [Nat.zero_add, List.nil_append] at h2
    exact h2
theorem cellsC_none {w : World} {l : List Int} (h : CellsI w none l) : l = [] := by
  cases l with
  | nil => rfl
  | cons a l =>
    obtain ⟨b, off, e, _⟩ := h 0 (by simp)
    cases e
set_option maxHeartbeats 2000000 in
set_option maxRecDepth 100000 in
theorem CloneC_any (l : List Int) (a : Option Addr) (cap : Nat) (w : World) (hc : CellsI w a l) (hl : l.length ≤ 1000) :
    Calls Tryz.prog 32 #[.slice a l.length cap] w fun e w' => ∃ v, e = .returned v ∧ OwnsI w' v l ∧ (∀ b, v.ownBlock = some b → w.heap.size ≤ b) ∧ Ext w w' := by
  cases a with
  | none =>
    have hle := cellsC_none hc
    subst hle
    refine (Tryz.slices_Clone_int_nil 0 cap w).mono fun e w' ⟨h1, h2⟩ => ?_
    subst h2
    exact ⟨_, h1, OwnsI.nil _, fun b hb => (by cases hb), Ext.refl _⟩
  | some p =>
    obtain ⟨v', w2, hr, hO, hB, hE⟩ := copyC_run (w := w) (a := some p) (l := l) cap hc (by omega)
    have HR := Lib.hid hr
    have HO := Lib.hid (show _ ∧ _ ∧ _ from ⟨hO, hB, hE⟩)
    clear hr hO hB hE hc
    generalize l.length = n at HR
    have hq : ∀ W, (binOp .eql 25 (.slice (some p) n cap) (.slice none 0 0)).run Tryz.prog W = .ok (.bool false) W := fun W => Lib.run_eql_slice_nil (P := Tryz.prog) W 25 3 (some p) n cap 0 0 Tryz.underlying25
    go_enter Tryz.func32, Tryz.ntmps32
    go_wp2_with (at_builtin; refine wpList_appC _ rfl _ _ 25 rfl (.slice (some ⟨w.heap.size, 0, none⟩) 0 0) (.slice (some p) n cap) rfl rfl v' w2 HR.out ?_)
    go_ret
    exact ⟨v', rfl, HO.out.1, HO.out.2.1, HO.out.2.2⟩
theorem flatGt_congr {f f' : Nat → Value} {gs : List Gt} : ∀ k, (∀ j, j < k → f j = f' j) → flatGt f gs k = flatGt f' gs k
  | 0, _ => rfl
  | k + 1, h => by unfold flatGt; rw [flatGt_congr k (fun j hj => h j (by omega)), h k (by omega)]
structure OwnsD (T : TypeId) (B : Nat) (w : World) (v : Value) (gs : List Gt) (k : Nat) : Prop where
  ex : ∃ f, OwnsGt T w v f gs k ∧ ∀ j, j < k → OwnsI w (f j) (gs.getD j gt0).args ∧ ∀ b, (f j).ownBlock = some b → v.ownBlock ≠ some b ∧ B ≤ b
  ge : ∀ b, v.ownBlock = some b → B ≤ b
theorem OwnsD.nil (T : TypeId) (B : Nat) (w : World) (gs : List Gt) : OwnsD T B w (.slice none 0 0) gs 0 := ⟨⟨fun _ => undef, World.ownsRow_nil w 0 _ _, fun j hj => absurd hj (Nat.not_lt_zero j)⟩, fun b hb => (by cases hb)⟩
theorem OwnsD.ext {T : TypeId} {B : Nat} {w w' : World} {v : Value} {gs : List Gt} {k : Nat} (h : OwnsD T B w v gs k) (e : Ext w w') : OwnsD T B w' v gs k := by
  obtain ⟨⟨f, h1, h2⟩, h3⟩ := h
  exact ⟨⟨f, rowExt h1 e, fun j hj => ⟨(h2 j hj).1.ext e, (h2 j hj).2⟩⟩, h3⟩
theorem OwnsD.other {T : TypeId} {B : Nat} {w : World} {v : Value} {gs : List Gt} {k : Nat} (h : OwnsD T B w v gs k) {p : Addr} (hp : p.block < B) (u : Value) : OwnsD T B (w.setCell p u) v gs k := by
  obtain ⟨⟨f, h1, h2⟩, h3⟩ := h
  refine ⟨⟨f, rowSame h1 (fun b hb => Below.heap_setCell _ _ _ _ (by have := h3 b hb; omega)), fun j hj => ⟨rowSame (h2 j hj).1 (fun b hb => Below.heap_setCell _ _ _ _ (by have := ((h2 j hj).2 b hb).2; omega)), (h2 j hj).2⟩⟩, h3⟩
theorem OwnsD.app {T S : TypeId} {z : Value} (hS : Tryz.prog.underlying S = some (.slice T)) (hT : (Tryz.prog.info? T).map (fun i => (i.zero, i.size, i.bytes)) = some (some z, 3, 40)) (hz : z.cells.size = 3)
    {B : Nat} {w : World} {v : Value} {gs : List Gt} {k : Nat} (h : OwnsD T B w v gs k) {kd nd : Int} {l : List Int} {m : Value} (hk : gs.getD k gt0 = ⟨kd, nd, l⟩) (hm : OwnsI w m l) (hmv : ∀ b, m.ownBlock = some b → v.ownBlock ≠ some b ∧ B ≤ b) {g : Nat} (c : Nat)
    (c0 : w.cell? ⟨g, 0, none⟩ = some (.int .i64 kd)) (c1 : w.cell? ⟨g, 1, none⟩ = some (.int .i64 nd)) (c2 : w.cell? ⟨g, 2, none⟩ = some m) (hl : k ≤ 100) (hB : B ≤ w.heap.size) :
    ∃ v' w', (Builtin.append_ #[S, S] S #[v, .slice (some ⟨g, 0, none⟩) 1 c]).run Tryz.prog w = .ok v' w' ∧ OwnsD T B w' v' gs (k + 1) ∧ App1 B w w' v v' := by
  obtain ⟨i0, hi, hi0, hi1, hi2⟩ := info_parts hT
  obtain ⟨⟨f, h1, h2⟩, h3⟩ := h
  have hone : m.oneCell' = true := ownsI_one hm
  obtain ⟨v', w', hr, h4, he⟩ := run_append1 (P := Tryz.prog) w S S T i0 z 3 40 hS hi hi0 hi1 hi2 hz (by decide) v k (flatGt f gs k) h1 ⟨g, 0, none⟩ 1 c (by decide) [.int .i64 kd, .int .i64 nd, m] rfl (news3 c0 c1 c2) (by intro u hu; simp at hu; rcases hu with rfl | rfl | rfl <;> first | rfl | exact hone) (by unfold maxLen; omega) (by omega)
  have A : App1 B w w' v v' := ⟨he.ge hB h3, he.below hB h3, he.chg.1, he.chg.2.1, he.chg.2.2⟩
  have key : ∀ (x : Value) (l : List Int), OwnsI w x l → (∀ b, x.ownBlock = some b → v.ownBlock ≠ some b ∧ B ≤ b) → OwnsI w' x l ∧ ∀ b, x.ownBlock = some b → v'.ownBlock ≠ some b ∧ B ≤ b := fun x l hp hn =>
    ⟨rowSame hp fun b hb => A.kept b (hp.lt hb) (hn b hb).1, fun b hb => ⟨fun e => by
      rcases A.own b e with e2 | e2
      · exact (hn b hb).1 e2
      · have := hp.lt hb; omega, (hn b hb).2⟩⟩
  refine ⟨v', w', hr, ⟨⟨fun j => if j = k then m else f j, ?_, fun j hj => ?_⟩, A.ge⟩, A⟩
  · show World.ownsRow _ _ _ _ _ _ _
    unfold flatGt
    rw [hk, if_pos rfl, flatGt_congr (f := fun j => if j = k then m else f j) (f' := f) k (fun j hj => if_neg (by omega))]
    exact h4
  · dsimp only
    by_cases hjk : j = k
    · subst hjk
      rw [if_pos rfl, hk]
      exact key m l hm hmv
    · rw [if_neg hjk]
      exact key _ _ (h2 j (by omega)).1 (h2 j (by omega)).2
theorem OwnsD.tree {T : TypeId} {B : Nat} {w : World} {v : Value} {t : Tr} (h : OwnsD T B w v t.gates t.gates.length) : ∃ pa pc, v = .slice pa t.gates.length pc ∧ TreeG w t pa pc := by
  obtain ⟨⟨f, h1, h2⟩, _⟩ := h
  exact OwnsGt.tree h1 (fun i hi => by
    obtain ⟨a, c, e1, e2, e3, e4⟩ := (h2 i hi).1.full
    exact ⟨a, c, e1, e2, e3, e4⟩)
structure NewG (W : World) (xb : Nat) (k n : Int) (m : Value) : Prop where
  c0 : W.cell? ⟨xb, 0, none⟩ = some (.int .i64 k)
  c1 : W.cell? ⟨xb, 1, none⟩ = some (.int .i64 n)
  c2 : W.cell? ⟨xb, 2, none⟩ = some m
  f0 : W.frozen? ⟨xb, 0, none⟩ = false
  f1 : W.frozen? ⟨xb, 1, none⟩ = false
  f2 : W.frozen? ⟨xb, 2, none⟩ = false
theorem NewG.made (W : World) (t : TypeId) : NewG (W.alloc (.cells #[.int .i64 0, .int .i64 0, .slice none 0 0] t)) W.heap.size 0 0 (.slice none 0 0) := ⟨by go_simp, by go_simp, by go_simp, by go_simp, by go_simp, by go_simp⟩
theorem NewG.ext {W W' : World} {xb : Nat} {k n : Int} {m : Value} (h : NewG W xb k n m) (e : Ext W W') : NewG W' xb k n m :=
  ⟨e.cell h.c0, e.cell h.c1, e.cell h.c2, (Below.frozen (p := ⟨xb, 0, none⟩) e (cell_lt h.c0)).trans h.f0, (Below.frozen (p := ⟨xb, 1, none⟩) e (cell_lt h.c1)).trans h.f1, (Below.frozen (p := ⟨xb, 2, none⟩) e (cell_lt h.c2)).trans h.f2⟩
theorem NewG.set0 {W : World} {xb : Nat} {k n : Int} {m : Value} (h : NewG W xb k n m) (x : Int) : NewG (W.setCell ⟨xb, 0, none⟩ (.int .i64 x)) xb x n m :=
  ⟨World.cell?_setCell_same _ _ _ h.c0, by rw [World.cell?_setCell_other _ _ _ _ (by simp)]; exact h.c1, by rw [World.cell?_setCell_other _ _ _ _ (by simp)]; exact h.c2, by rw [World.frozen?_setCell]; exact h.f0, by rw [World.frozen?_setCell]; exact h.f1, by rw [World.frozen?_setCell]; exact h.f2⟩
theorem NewG.set1 {W : World} {xb : Nat} {k n : Int} {m : Value} (h : NewG W xb k n m) (x : Int) : NewG (W.setCell ⟨xb, 1, none⟩ (.int .i64 x)) xb k x m :=
  ⟨by rw [World.cell?_setCell_other _ _ _ _ (by simp)]; exact h.c0, World.cell?_setCell_same _ _ _ h.c1, by rw [World.cell?_setCell_other _ _ _ _ (by simp)]; exact h.c2, by rw [World.frozen?_setCell]; exact h.f0, by rw [World.frozen?_setCell]; exact h.f1, by rw [World.frozen?_setCell]; exact h.f2⟩
theorem NewG.set2 {W : World} {xb : Nat} {k n : Int} {m : Value} (h : NewG W xb k n m) (x : Value) : NewG (W.setCell ⟨xb, 2, none⟩ x) xb k n x :=
  ⟨by rw [World.cell?_setCell_other _ _ _ _ (by simp)]; exact h.c0, by rw [World.cell?_setCell_other _ _ _ _ (by simp)]; exact h.c1, World.cell?_setCell_same _ _ _ h.c2, by rw [World.frozen?_setCell]; exact h.f0, by rw [World.frozen?_setCell]; exact h.f1, by rw [World.frozen?_setCell]; exact h.f2⟩
end Go.Proofs.YtlhpfhnbeagnaaaGreatDoor
namespace Go.Proofs.YtlhpfhnbeagnaaaGreatDoor
open Go.RowKit
def dualZ (t : Tr) : Tr := if treeE t = 0 then dualT t else ⟨0, []⟩
def TreeE (t : Tr) (er : Int) (w : World) (e : Ending) (w' : World) : Prop := ∃ a cap, e = .returned (.tuple #[treeV t a cap, .int .i64 er]) ∧ TreeG w' t a cap ∧ Ext w w'
theorem treeG_none (w : World) : TreeG w ⟨0, []⟩ none 0 := ⟨fun i hi => by simp at hi, Nat.le_refl _, Nat.zero_le _⟩
theorem dual_at {t : Tr} {k : Nat} (hk : k < t.gates.length) : (dualT t).gates.getD k gt0 = dualG (t.gates.getD k gt0) := by
  show (t.gates.map dualG).getD k gt0 = _
  rw [List.getD_eq_getElem?_getD, List.getElem?_map, List.getElem?_eq_getElem hk, List.getD_eq_getElem?_getD, List.getElem?_eq_getElem hk]
  rfl
theorem dual_len (t : Tr) : (dualT t).gates.length = t.gates.length := List.length_map _
theorem gtsOk_at : ∀ (l : List Gt) (b : Int) (k : Nat), GtsOk b l → k < l.length → ∃ c, GtOk (l.getD k gt0) c := by
  intro l
  induction l with
  | nil => intro b k _ hk; exact absurd hk (Nat.not_lt_zero k)
  | cons g l ih =>
    intro b k h hk
    cases k with
    | zero => exact ⟨b, h.1⟩
    | succ k => exact ih (b + 1) k h.2 (by simpa using hk)
theorem dualG_parts {g : Gt} {c : Int} (h : GtOk g c) : ∃ kd nd, dualG g = ⟨kd, nd, g.args⟩ ∧ ((g.kind = 0 ∧ kd = 1) ∨ (g.kind = 1 ∧ kd = 0) ∨ (g.kind = 2 ∧ kd = 2)) ∧ (g.kind = 2 → nd = (g.args.length : Int) + 1 - g.need) ∧ (g.kind ≠ 2 → nd = 0) ∧ g.args.length ≤ 64 ∧ -9223372036854775808 ≤ g.need ∧ g.need ≤ 64 ∧ 0 ≤ g.need := by
  have h1 := h.k0
  have h2 := h.k1
  have h3 := h.le
  have h4 := h.need
  have h5 := h.form
  refine ⟨_, _, rfl, ?_, fun e => if_pos e, fun e => if_neg e, h3, ?_⟩
  · by_cases e : g.kind = 2
    · rw [if_pos e]; exact .inr (.inr ⟨e, rfl⟩)
    · rw [if_neg e]; omega
  · by_cases e : g.kind = 2
    · have := h4 e; omega
    · have := h5 e; omega
theorem infoGtC : (Tryz.prog.info? 99).map (fun i => (i.zero, i.size, i.bytes)) = some (some (.agg #[.int .i64 0, .int .i64 0, .slice none 0 0]), 3, 40) := by kernel_rfl
theorem OwnsD.lt {T : TypeId} {B : Nat} {w : World} {v : Value} {gs : List Gt} {k : Nat} (h : OwnsD T B w v gs k) {b : Nat} (hb : v.ownBlock = some b) : b < w.heap.size := by
  obtain ⟨⟨f, h1, _⟩, _⟩ := h
  exact rowLt h1 hb
def DuaX (w : World) (gb : Nat) (p kd nd0 : Int) (ai : Option Addr) (L ci : Nat) (l : List Int) (a0 a : Act) (W : World) : Prop :=
  ∃ xb va vc, a = ((((((((a0.put (some 25) (.agg #[.int .i64 1, .int .i64 0, .int .i64 2])).put (some 26) (.pointer (some ⟨gb, 0, none⟩))).put (some 27) (.int .i64 p)).put (some 28) (.int .i64 kd)).put (some 29) (.pointer (some ⟨gb, 2, none⟩))).put (some 30) (.slice ai L ci)).put (some 31) (.slice va L vc)).put (some 32) (.agg #[.int .i64 kd, .int .i64 0, .slice va L vc])).put (some 8) (.pointer (some ⟨xb, 0, none⟩)) ∧
    NewG W xb kd nd0 (.slice va L vc) ∧ OwnsI W (.slice va L vc) l ∧ (∀ b, (Value.slice va L vc).ownBlock = some b → w.heap.size ≤ b ∧ b ≠ xb) ∧ w.heap.size ≤ xb ∧ Ext w W
theorem ret_tree {a : Option Addr} {t : Tr} {cap gn : Nat} {ev er er' : Int} (h1 : ev = t.ev) (h2 : gn = t.gates.length) (h3 : er = er') : Ending.returned (.tuple #[.agg #[.int .i64 ev, .slice a gn cap], .int .i64 er]) = .returned (.tuple #[treeV t a cap, .int .i64 er']) := by
  subst h1; subst h2; subst h3; rfl
set_option maxHeartbeats 16000000 in
set_option maxRecDepth 100000 in
theorem Dual_any {t : Tr} {pa : Option Addr} {pc : Nat} {w : World} (ht : TreeG w t pa pc) :
    Calls Tryz.prog 33 #[treeV t pa pc] w (TreeE (dualZ t) (treeE t : Nat) w) := by
  obtain ⟨f, hf⟩ := gates_fn ht.cells
  have HF := Lib.hid hf
  have HK := Lib.hid (fun W (hW : Ext w W) => cCheck_any (ht.ext hW))
  have HOK : Hid (treeE t = 0 → TrOk t) := treeE_ok
  have HZ0 : Hid (treeE t ≠ 0 → dualZ t = ⟨0, []⟩) := fun h => if_neg h
  have HZ1 : Hid (treeE t = 0 → dualZ t = dualT t) := fun h => if_pos h
  unfold treeV at HK ⊢
  generalize treeE t = er at HK HOK HZ0 HZ1 ⊢
  obtain ⟨N, hN⟩ : ∃ N, N = t.gates.length := ⟨_, rfl⟩
  obtain ⟨ev, hev⟩ : ∃ ev, ev = t.ev := ⟨_, rfl⟩
  rw [← hN, ← hev] at HK ⊢
  have HN := Lib.hid hN
  have HEV := Lib.hid hev
  clear hf ht hN hev
  have y0 : ((w.alloc (.cells #[.int .i64 ev, .slice pa N pc] 24)).alloc (.cells #[.int .i64 0, .slice none 0 0] 24)).cell? ⟨w.heap.size, 0, none⟩ = some (.int .i64 ev) := by go_simp
  have y1 : ((w.alloc (.cells #[.int .i64 ev, .slice pa N pc] 24)).alloc (.cells #[.int .i64 0, .slice none 0 0] 24)).cell? ⟨w.heap.size, 1, none⟩ = some (.slice pa N pc) := by go_simp
  have r0 : ((w.alloc (.cells #[.int .i64 ev, .slice pa N pc] 24)).alloc (.cells #[.int .i64 0, .slice none 0 0] 24)).cell? ⟨w.heap.size + 1, 0, none⟩ = some (.int .i64 0) := by go_simp
  have r1 : ((w.alloc (.cells #[.int .i64 ev, .slice pa N pc] 24)).alloc (.cells #[.int .i64 0, .slice none 0 0] 24)).cell? ⟨w.heap.size + 1, 1, none⟩ = some (.slice none 0 0) := by go_simp
  have fr0 : ((w.alloc (.cells #[.int .i64 ev, .slice pa N pc] 24)).alloc (.cells #[.int .i64 0, .slice none 0 0] 24)).frozen? ⟨w.heap.size + 1, 0, none⟩ = false := by go_simp
  have fr1 : ((w.alloc (.cells #[.int .i64 ev, .slice pa N pc] 24)).alloc (.cells #[.int .i64 0, .slice none 0 0] 24)).frozen? ⟨w.heap.size + 1, 1, none⟩ = false := by go_simp
  have E0 : Ext w ((w.alloc (.cells #[.int .i64 ev, .slice pa N pc] 24)).alloc (.cells #[.int .i64 0, .slice none 0 0] 24)) := extA
  go_enter Tryz.func33, Tryz.ntmps33
  go_wp2_with fail
  obtain ⟨rb, hrb⟩ : ∃ rb, rb = w.heap.size + 1 := ⟨_, rfl⟩
  rw [← hrb] at r0 r1 fr0 fr1 ⊢
  have hwr : w.heap.size < rb := by omega
  clear hrb
  generalize ((w.alloc (.cells #[.int .i64 ev, .slice pa N pc] 24)).alloc (.cells #[.int .i64 0, .slice none 0 0] 24)) = V0 at y0 y1 r0 r1 fr0 fr1 E0 ⊢
  refine (HK.out _ E0).mono ?_
  rintro e w1 ⟨rfl, hE⟩
  have E1 := E0.trans hE
  have fr0 := (Below.frozen (p := ⟨rb, 0, none⟩) hE (cell_lt r0)).trans fr0
  have fr1 := (Below.frozen (p := ⟨rb, 1, none⟩) hE (cell_lt r1)).trans fr1
  replace y0 := hE.cell y0
  replace y1 := hE.cell y1
  replace r0 := hE.cell r0
  replace r1 := hE.cell r1
  have zy := cell_lt y0
  have zr := cell_lt r0
  dsimp only at zy zr
  clear hE HK E0
  by_cases h0 : er = 0
  case neg =>
    have k5 : ((er : Int) != 0) = true := by rw [bne_iff_ne]; omega
    have HZ := Lib.hid (HZ0.out h0)
    clear HZ0 HZ1 HOK h0 HF
    go_wp2
    have E2 : Ext w ((w1.setCell ⟨rb, 0, none⟩ (.int .i64 0)).setCell ⟨rb, 1, none⟩ (.slice none 0 0)) := Below.setCell (p := ⟨rb, 1, none⟩) (Below.setCell (p := ⟨rb, 0, none⟩) E1 (by show w.heap.size ≤ rb; omega) _) (by show w.heap.size ≤ rb; omega) _
    refine bodyPost_ret (v := .tuple #[.agg #[.int .i64 0, .slice none 0 0], .int .i64 er]) (by rw [results_cell_tmp rfl]; go_simp) rfl ?_
    rw [HZ.out]
    exact ⟨none, 0, rfl, treeG_none _, E2⟩
  have hOK := HOK.out h0
  have HZ := Lib.hid (HZ1.out h0)
  subst h0
  have HG := Lib.hid (fun k (hk : k < t.gates.length) => gtsOk_at _ _ k hOK.ok hk)
  have hl : N ≤ 64 := by rw [HN.out]; exact hOK.g2
  clear HZ0 HZ1 HOK hOK
  go_wp2
  have E2 : Ext w (w1.alloc (.cells #[.int .i64 ev, .slice none 0 0] 24)) := E1.trans extA
  have q0 : (w1.alloc (.cells #[.int .i64 ev, .slice none 0 0] 24)).cell? ⟨w1.heap.size, 0, none⟩ = some (.int .i64 ev) := by go_simp
  have q1 : (w1.alloc (.cells #[.int .i64 ev, .slice none 0 0] 24)).cell? ⟨w1.heap.size, 1, none⟩ = some (.slice none 0 0) := by go_simp
  have fq1 : (w1.alloc (.cells #[.int .i64 ev, .slice none 0 0] 24)).frozen? ⟨w1.heap.size, 1, none⟩ = false := by go_simp
  have EV : Ext w1 (w1.alloc (.cells #[.int .i64 ev, .slice none 0 0] 24)) := extA
  have fr0 := (Below.frozen (p := ⟨rb, 0, none⟩) EV (cell_lt r0)).trans fr0
  have fr1 := (Below.frozen (p := ⟨rb, 1, none⟩) EV (cell_lt r1)).trans fr1
  replace y0 := EV.cell y0
  replace y1 := EV.cell y1
  replace r0 := EV.cell r0
  replace r1 := EV.cell r1
  obtain ⟨ob, hob⟩ : ∃ ob, ob = w1.heap.size := ⟨_, rfl⟩
  have hsz : w1.heap.size < (w1.alloc (.cells #[.int .i64 ev, .slice none 0 0] 24)).heap.size := cell_lt q0
  rw [← hob] at q0 q1 fq1 zr hsz ⊢
  have hrob := zr
  clear EV hob E1 zy zr
  generalize (w1.alloc (.cells #[.int .i64 ev, .slice none 0 0] 24)) = W at E2 y0 y1 r0 r1 q0 q1 fr0 fr1 fq1 hsz ⊢
  obtain ⟨m0, hm0⟩ : ∃ m0, m0 = W.heap.size := ⟨_, rfl⟩
  rw [← hm0] at hsz
  go_loopw [21] (fun i wr => ∃ k : Nat, k ≤ N ∧ i = .int .i64 k ∧ Hid (∃ v, wr.cell? ⟨ob, 0, none⟩ = some (.int .i64 ev) ∧ wr.cell? ⟨ob, 1, none⟩ = some v ∧ wr.frozen? ⟨ob, 1, none⟩ = false ∧ OwnsD 99 m0 wr v (dualT t).gates k) ∧ Hid (wr.cell? ⟨rb, 0, none⟩ = some (.int .i64 0) ∧ wr.cell? ⟨rb, 1, none⟩ = some (.slice none 0 0) ∧ wr.frozen? ⟨rb, 0, none⟩ = false ∧ wr.frozen? ⟨rb, 1, none⟩ = false ∧ wr.cell? ⟨w.heap.size, 1, none⟩ = some (.slice pa N pc)) ∧ m0 ≤ wr.heap.size ∧ Ext w wr) (fun i _ => N - (intOf i).toNat)
  case atStart => exact ⟨0, Nat.zero_le _, rfl, ⟨_, q0, q1, fq1, OwnsD.nil _ _ _ _⟩, ⟨r0, r1, fr0, fr1, y1⟩, by omega, E2⟩
  case round =>
    clear y0 y1 r0 r1 q0 q1 fr0 fr1 fq1 E2 hm0
    obtain ⟨k, hk, rfl, HV, HRB, hm, he⟩ := hrel
    obtain ⟨v, q0, q1, fq1, hown⟩ := HV.out
    obtain ⟨r0, r1, fr0, fr1, y1⟩ := HRB.out
    have zq := cell_lt q0
    have zr := cell_lt r0
    have zy := cell_lt y1
    dsimp only at zq zr zy
    by_cases hlt : k < N
    · have hlt' : (k : Int) < (N : Int) := by omega
      obtain ⟨c, hgk⟩ := HG.out k (by rw [← HN.out]; exact hlt)
      obtain ⟨kd, nd, hdg, hkd, hn2, hn0, hL64, hm1, hm2, hm3⟩ := dualG_parts hgk
      obtain ⟨b, off, rfl, c1, c2, c3, cs⟩ := HF.out k (by rw [← HN.out]; exact hlt)
      have c1 := he.cell c1
      have c2 := he.cell c2
      have c3 := he.cell c3
      obtain ⟨ai, ci, hfk, cs, _, _⟩ := cs.ext he
      rw [hfk] at c3
      have HDG : Hid ((dualT t).gates.getD k gt0 = ⟨kd, nd, (t.gates.getD k gt0).args⟩) := by show _ = _; rw [dual_at (by rw [← HN.out]; exact hlt), hdg]
      have HCL := Lib.hid (fun W (hW : Ext wr W) => CloneC_any _ ai ci W (cs.ext hW) (by omega))
      clear hgk hdg cs hfk
      generalize (t.gates.getD k gt0).args = l at c3 HDG HCL hL64 hn2
      obtain ⟨L, hLl⟩ : ∃ L, L = l.length := ⟨_, rfl⟩
      rw [← hLl] at c3 HCL hL64 hn2
      have HLL := Lib.hid hLl
      clear hLl
      generalize (t.gates.getD k gt0).kind = p at c1 hkd hn2 hn0
      generalize (t.gates.getD k gt0).need = m at c2 hn2 hm1 hm2 hm3
      have zb := cell_lt c1
      dsimp only at zb
      have HKD := Lib.hid hkd
      have HOW := Lib.hid hown
      clear hkd hown
      go_wp2_with fail
      have EG : Ext wr (wr.alloc (.cells #[.int .i64 p, .int .i64 m, .slice ai L ci] 99)) := extA
      have g0 : (wr.alloc (.cells #[.int .i64 p, .int .i64 m, .slice ai L ci] 99)).cell? ⟨wr.heap.size, 0, none⟩ = some (.int .i64 p) := by go_simp
      have g1 : (wr.alloc (.cells #[.int .i64 p, .int .i64 m, .slice ai L ci] 99)).cell? ⟨wr.heap.size, 1, none⟩ = some (.int .i64 m) := by go_simp
      have g2 : (wr.alloc (.cells #[.int .i64 p, .int .i64 m, .slice ai L ci] 99)).cell? ⟨wr.heap.size, 2, none⟩ = some (.slice ai L ci) := by go_simp
      obtain ⟨gb, hgb⟩ : ∃ gb, gb = wr.heap.size := ⟨_, rfl⟩
      rw [← hgb] at g0 g1 g2 ⊢
      have HGB := Lib.hid hgb
      clear hgb
      generalize (wr.alloc (.cells #[.int .i64 p, .int .i64 m, .slice ai L ci] 99)) = V at EG g0 g1 g2 ⊢
      refine wp_keyC (DuaX V gb p kd 0 ai L ci l) ?tail ?reg
      case reg =>
        intro hQ
        have hIX : ∀ W, (Instr.index 111 (.agg #[.int .i64 1, .int .i64 0, .int .i64 2]) (.int .i64 p)).run Tryz.prog W = .ok (.int .i64 kd) W := fun W => by rcases HKD.out with ⟨h1, h2⟩ | ⟨h1, h2⟩ | ⟨h1, h2⟩ <;> (rw [h1, h2]; simp [Instr.index, go_sem])
        clear HV HRB HOW HG HF q0 q1 fq1 r0 r1 fr0 fr1 y1
        have hS : Ext V V.drew := extA
        refine wp_region_heldE 9 (Ext V) (by kernel_rfl) ?_
        generalize V.drew = v1 at hS ⊢
        ((refine ePu 0 ?_); (refine ePu 1 ?_); (refine ePu 4 ?_))
        (refine wpAnyE_take (oi := ?_) (v := ?_) (i := 2) ?_ (by kernel_rfl) ?_ ?_ (by assumption) ?_; rotate_left 2; (focus ((simp only [List.getElem?_toArray, List.getElem?_cons_succ, List.getElem?_cons_zero]; exact rfl))); (focus (exact fun _ _ _ h => h)); (focus (refine Or.inl ⟨by rfl, ?_⟩; intro w hSw; have hg0 := hSw.cell g0; have zg0 := cell_lt hg0; dsimp only at zg0; (first | (go_simp; done) | (go_simp; with_reducible rfl)))); (try simp only [Act.put, List.setIfInBounds_toArray, List.set_cons_zero, List.set_cons_succ]))
        (refine wpAnyE_take (oi := ?_) (v := ?_) (i := 5) ?_ (by kernel_rfl) ?_ ?_ (by assumption) ?_; rotate_left 2; (focus ((simp only [List.getElem?_toArray, List.getElem?_cons_succ, List.getElem?_cons_zero]; exact rfl))); (focus (exact fun _ _ _ h => h)); (focus (refine Or.inl ⟨by rfl, ?_⟩; intro w hSw; have hg2 := hSw.cell g2; have zg2 := cell_lt hg2; dsimp only at zg2; (first | (go_simp; done) | (go_simp; with_reducible rfl)))); (try simp only [Act.put, List.setIfInBounds_toArray, List.set_cons_zero, List.set_cons_succ]))
        (refine wpAnyE_pure (v := .int .i64 kd) (i := 3) (oi := ?_) ?_ (by kernel_rfl) ?_ ?_ ?_ ?_; rotate_left; (focus ((simp only [List.getElem?_toArray, List.getElem?_cons_succ, List.getElem?_cons_zero]; exact rfl))); (focus (exact fun _ _ _ h => h)); (focus (refine Or.inl ⟨by rfl, ?_⟩; intro w hSw; clear hSw; (first | (go_simp; done) | (go_simp; with_reducible rfl)))); (focus (first | exact (fun _ => by assumption) | (intro hlst; exact absurd hlst (by kernel_rfl)) | (intro hlst; cases hlst))); (try simp only [Act.put, List.setIfInBounds_toArray, List.set_cons_zero, List.set_cons_succ]))
        refine wpAnyE_two (i := 6) (j := 8) (o := ?_) (p := ?_) (by (simp only [List.getElem?_toArray, List.getElem?_cons_succ, List.getElem?_cons_zero]; exact rfl)) (by (simp only [List.getElem?_toArray, List.getElem?_cons_succ, List.getElem?_cons_zero]; exact rfl)) (by kernel_rfl) (fun K hK => ?_) (fun K hK => ?_)
        · skip
          go_simp
          refine (HCL.out _ (EG.trans hS)).mono ?_
          rintro e v2 ⟨mv, rfl, hO, hB, hE⟩
          obtain ⟨va, vc, hmv, _⟩ := hO.full
          rw [← HLL.out] at hmv
          subst hmv
          have HO := Lib.hid hO
          have HB := Lib.hid hB
          clear hO hB
          go_wp2_with fail
          refine hK.out _ _ (hS.trans hE) (fun hHeld => ?_)
          clear hK K hHeld
          (try simp only [Act.put, List.setIfInBounds_toArray, List.set_cons_zero, List.set_cons_succ])
          have hS0 := hS.size
          replace hS := hS.trans hE
          have HB1 : Hid (∀ b, (Value.slice va L vc).ownBlock = some b → V.heap.size ≤ b ∧ b < v2.heap.size) := fun b hb => ⟨Nat.le_trans hS0 (HB.out b hb), HO.out.lt hb⟩
          clear hE HB hS0
          generalize hv1 : v2 = v1 at hS HO HB1 ⊢
          clear hv1
          (refine ePu 7 ?_)
          refine wpAnyE_one (i := 8) (o := ?_) ?_ (by kernel_rfl) (fun K hK => ?_)
          rotate_left
          · (simp only [List.getElem?_toArray, List.getElem?_cons_succ, List.getElem?_cons_zero]; exact rfl)
          have hE : Ext v1 (v1.alloc (.cells #[.int .i64 0, .int .i64 0, .slice none 0 0] 99)) := extA
          have X := NewG.made v1 99
          obtain ⟨xb, hxb⟩ : ∃ q, q = v1.heap.size := ⟨_, rfl⟩
          have hxw : V.heap.size ≤ xb := by rw [hxb]; exact hS.size
          go_simp
          refine hK.out _ _ (hS.trans hE) (fun hHeld => ?_)
          clear hK K hHeld
          (try simp only [Act.put, List.setIfInBounds_toArray, List.set_cons_zero, List.set_cons_succ])
          rw [← hxb] at X ⊢
          have HB2 : Hid (∀ b, (Value.slice va L vc).ownBlock = some b → V.heap.size ≤ b ∧ b ≠ xb) := fun b hb => ⟨(HB1.out b hb).1, by have := (HB1.out b hb).2; omega⟩
          replace HO := Lib.hid (HO.out.ext hE)
          replace hS := hS.trans hE
          clear hE HB1 hxb
          generalize (v1.alloc (.cells #[.int .i64 0, .int .i64 0, .slice none 0 0] 99)) = v4 at X hS HO ⊢
          have X2 := ((X.set0 kd).set1 0).set2 (.slice va L vc)
          have E3 : Ext V (((v4.setCell ⟨xb, 0, none⟩ (.int .i64 kd)).setCell ⟨xb, 1, none⟩ (.int .i64 0)).setCell ⟨xb, 2, none⟩ (.slice va L vc)) := Below.setCell (p := ⟨xb, 2, none⟩) (Below.setCell (p := ⟨xb, 1, none⟩) (Below.setCell (p := ⟨xb, 0, none⟩) hS hxw _) hxw _) hxw _
          have O3 : Hid (OwnsI (((v4.setCell ⟨xb, 0, none⟩ (.int .i64 kd)).setCell ⟨xb, 1, none⟩ (.int .i64 0)).setCell ⟨xb, 2, none⟩ (.slice va L vc)) (.slice va L vc) l) := by
            refine rowSame HO.out fun b hb => ?_
            rw [Below.heap_setCell _ _ _ _ (HB2.out b hb).2, Below.heap_setCell _ _ _ _ (HB2.out b hb).2, Below.heap_setCell _ _ _ _ (HB2.out b hb).2]
          obtain ⟨x0, x1, x2, f0, f1, f2⟩ := X
          have zx := cell_lt x0
          dsimp only at zx
          clear HO
          (refine wpAnyE_free (i := 9) (o := ?_) ?_ (by kernel_rfl) (by kernel_rfl) (fun K hK => ?_); rotate_left; (focus ((simp only [List.getElem?_toArray, List.getElem?_cons_succ, List.getElem?_cons_zero]; exact rfl))); go_simp; refine hK.out _ _ ?_; clear hK K; (try simp only [Act.put, List.setIfInBounds_toArray, List.set_cons_zero, List.set_cons_succ]))
          refine wpAnyE_done (by kernel_rfl) ?_ _
          refine hQ _ _ ⟨xb, va, vc, ?_, X2, O3.out, HB2.out, hxw, E3⟩
          simp only [Act.put, List.setIfInBounds_toArray, List.set_cons_zero, List.set_cons_succ]
        · skip
          have hE : Ext v1 (v1.alloc (.cells #[.int .i64 0, .int .i64 0, .slice none 0 0] 99)) := extA
          have X := NewG.made v1 99
          obtain ⟨xb, hxb⟩ : ∃ q, q = v1.heap.size := ⟨_, rfl⟩
          have hxw : V.heap.size ≤ xb := by rw [hxb]; exact hS.size
          go_simp
          refine hK.out _ _ (hS.trans hE) (fun hHeld => ?_)
          clear hK K hHeld
          (try simp only [Act.put, List.setIfInBounds_toArray, List.set_cons_zero, List.set_cons_succ])
          rw [← hxb] at X ⊢
          have zxb : xb < (v1.alloc (.cells #[.int .i64 0, .int .i64 0, .slice none 0 0] 99)).heap.size := cell_lt X.c0
          replace hS := hS.trans hE
          clear hE hxb
          generalize (v1.alloc (.cells #[.int .i64 0, .int .i64 0, .slice none 0 0] 99)) = v3 at X hS zxb ⊢
          refine wpAnyE_one (i := 6) (o := ?_) ?_ (by kernel_rfl) (fun K hK => ?_)
          rotate_left
          · (simp only [List.getElem?_toArray, List.getElem?_cons_succ, List.getElem?_cons_zero]; exact rfl)
          go_simp
          refine (HCL.out _ (EG.trans hS)).mono ?_
          rintro e v2 ⟨mv, rfl, hO, hB, hE⟩
          obtain ⟨va, vc, hmv, _⟩ := hO.full
          rw [← HLL.out] at hmv
          subst hmv
          have HO := Lib.hid hO
          have HB := Lib.hid hB
          clear hO hB
          go_wp2_with fail
          refine hK.out _ _ (hS.trans hE) (fun hHeld => ?_)
          clear hK K hHeld
          (try simp only [Act.put, List.setIfInBounds_toArray, List.set_cons_zero, List.set_cons_succ])
          have hS0 := hS.size
          replace hS := hS.trans hE
          have HB2 : Hid (∀ b, (Value.slice va L vc).ownBlock = some b → V.heap.size ≤ b ∧ b ≠ xb) := fun b hb => ⟨Nat.le_trans hS0 (HB.out b hb), by have := HB.out b hb; omega⟩
          replace X := X.ext hE
          clear hE HB zxb hS0
          generalize hv1 : v2 = v4 at hS HO X ⊢
          clear hv1
          (refine ePu 7 ?_)
          have X2 := ((X.set0 kd).set1 0).set2 (.slice va L vc)
          have E3 : Ext V (((v4.setCell ⟨xb, 0, none⟩ (.int .i64 kd)).setCell ⟨xb, 1, none⟩ (.int .i64 0)).setCell ⟨xb, 2, none⟩ (.slice va L vc)) := Below.setCell (p := ⟨xb, 2, none⟩) (Below.setCell (p := ⟨xb, 1, none⟩) (Below.setCell (p := ⟨xb, 0, none⟩) hS hxw _) hxw _) hxw _
          have O3 : Hid (OwnsI (((v4.setCell ⟨xb, 0, none⟩ (.int .i64 kd)).setCell ⟨xb, 1, none⟩ (.int .i64 0)).setCell ⟨xb, 2, none⟩ (.slice va L vc)) (.slice va L vc) l) := by
            refine rowSame HO.out fun b hb => ?_
            rw [Below.heap_setCell _ _ _ _ (HB2.out b hb).2, Below.heap_setCell _ _ _ _ (HB2.out b hb).2, Below.heap_setCell _ _ _ _ (HB2.out b hb).2]
          obtain ⟨x0, x1, x2, f0, f1, f2⟩ := X
          have zx := cell_lt x0
          dsimp only at zx
          clear HO
          (refine wpAnyE_free (i := 9) (o := ?_) ?_ (by kernel_rfl) (by kernel_rfl) (fun K hK => ?_); rotate_left; (focus ((simp only [List.getElem?_toArray, List.getElem?_cons_succ, List.getElem?_cons_zero]; exact rfl))); go_simp; refine hK.out _ _ ?_; clear hK K; (try simp only [Act.put, List.setIfInBounds_toArray, List.set_cons_zero, List.set_cons_succ]))
          refine wpAnyE_done (by kernel_rfl) ?_ _
          refine hQ _ _ ⟨xb, va, vc, ?_, X2, O3.out, HB2.out, hxw, E3⟩
          simp only [Act.put, List.setIfInBounds_toArray, List.set_cons_zero, List.set_cons_succ]
      case tail =>
        rintro a W ⟨xb, va, vc, rfl, X, hO, hB, hxb, hE⟩
        clear HG HF HCL
        by_cases hp2 : p = 2
        · skip
          have hnd := hn2 hp2
          subst hp2
          subst hnd
          clear hn2 hn0
          have NX := X.set1 ((L : Int) + 1 - m)
          have EU : Ext V (W.setCell ⟨xb, 1, none⟩ (.int .i64 ((L : Int) + 1 - m))) := Below.setCell (p := ⟨xb, 1, none⟩) hE hxb _
          have OU : OwnsI (W.setCell ⟨xb, 1, none⟩ (.int .i64 ((L : Int) + 1 - m))) (.slice va L vc) l := rowSame hO (fun b hb => Below.heap_setCell _ _ _ _ (hB b hb).2)
          have hsz2 : ((W.setCell ⟨xb, 1, none⟩ (.int .i64 ((L : Int) + 1 - m)))).heap.size = W.heap.size := by simp
          obtain ⟨x0, x1, x2, f0, f1, f2⟩ := X
          have d1 := hE.cell g1
          have d2 := hE.cell g2
          have d0 := hE.cell g0
          have e1 := EU.cell g1
          have zx := cell_lt x0
          have zd := cell_lt d0
          dsimp only at zx zd
          obtain ⟨w0, w1', w2, _, _, _⟩ := NX
          have EWR : Ext wr (W.setCell ⟨xb, 1, none⟩ (.int .i64 ((L : Int) + 1 - m))) := EG.trans EU
          have u1 := EWR.cell q1
          have zu := cell_lt u1
          dsimp only at zu
          have uf := (Below.frozen (p := ⟨ob, 1, none⟩) EWR (by dsimp only; omega)).trans fq1
          have E2 : Ext (W.setCell ⟨xb, 1, none⟩ (.int .i64 ((L : Int) + 1 - m))) ((W.setCell ⟨xb, 1, none⟩ (.int .i64 ((L : Int) + 1 - m))).alloc (.cells #[.int .i64 kd, .int .i64 ((L : Int) + 1 - m), .slice va L vc] 99)) := extA
          have n0 : ((W.setCell ⟨xb, 1, none⟩ (.int .i64 ((L : Int) + 1 - m))).alloc (.cells #[.int .i64 kd, .int .i64 ((L : Int) + 1 - m), .slice va L vc] 99)).cell? ⟨((W.setCell ⟨xb, 1, none⟩ (.int .i64 ((L : Int) + 1 - m)))).heap.size, 0, none⟩ = some (.int .i64 kd) := by rw [World.cell?_alloc_new]; rfl
          have n1 : ((W.setCell ⟨xb, 1, none⟩ (.int .i64 ((L : Int) + 1 - m))).alloc (.cells #[.int .i64 kd, .int .i64 ((L : Int) + 1 - m), .slice va L vc] 99)).cell? ⟨((W.setCell ⟨xb, 1, none⟩ (.int .i64 ((L : Int) + 1 - m)))).heap.size, 1, none⟩ = some (.int .i64 ((L : Int) + 1 - m)) := by rw [World.cell?_alloc_new]; rfl
          have n2 : ((W.setCell ⟨xb, 1, none⟩ (.int .i64 ((L : Int) + 1 - m))).alloc (.cells #[.int .i64 kd, .int .i64 ((L : Int) + 1 - m), .slice va L vc] 99)).cell? ⟨((W.setCell ⟨xb, 1, none⟩ (.int .i64 ((L : Int) + 1 - m)))).heap.size, 2, none⟩ = some (.slice va L vc) := by rw [World.cell?_alloc_new]; rfl
          have hV := EG.size
          have hU := (EWR.trans E2).size
          obtain ⟨v', w9, hr, hown9, hA⟩ := ((HOW.out.ext EWR).ext E2).app (S := 22) Tryz.underlying22 infoGtC rfl HDG.out (OU.ext E2) (fun b hb => ⟨fun e => by have h1 := (hB b hb).1; have h2 := HOW.out.lt e; omega, by have h1 := (hB b hb).1; omega⟩) 1 n0 n1 n2 (by omega) (by omega)
          rw [hsz2] at hr
          have HR := Lib.hid hr
          have HO9 := Lib.hid hown9
          have BW := Lib.hid (Below.trans ((EWR.trans E2).mono hm) hA.below)
          clear hr hown9 hA n0 n1 n2 OU hU hV EU hsz2 hO hB hE E2 EWR HOW
          obtain ⟨pa9, pc9, hv9⟩ : ∃ pa9 pc9, v' = .slice pa9 (k + 1) pc9 := by
            obtain ⟨⟨f, h, _⟩, _⟩ := HO9.out
            obtain ⟨a, c, h, _⟩ := rowFull h
            exact ⟨a, c, h⟩
          have B := BW.out
          have q09 := cellB B (p := ⟨ob, 0, none⟩) hsz q0
          have q19 := cellB B (p := ⟨ob, 1, none⟩) hsz q1
          have r09 := cellB B (p := ⟨rb, 0, none⟩) (by dsimp only; omega) r0
          have r19 := cellB B (p := ⟨rb, 1, none⟩) (by dsimp only; omega) r1
          have y19 := cellB B (p := ⟨w.heap.size, 1, none⟩) (by dsimp only; omega) y1
          have fq19 := (Below.frozen (p := ⟨ob, 1, none⟩) B hsz).trans fq1
          have fr09 := (Below.frozen (p := ⟨rb, 0, none⟩) B (by dsimp only; omega)).trans fr0
          have fr19 := (Below.frozen (p := ⟨rb, 1, none⟩) B (by dsimp only; omega)).trans fr1
          have hm9 : m0 ≤ w9.heap.size := by have := B.size; omega
          have E9 : Ext w w9 := Below.trans he (B.mono (by omega))
          have zq9 := cell_lt q09
          dsimp only at zq9
          have O10 : Hid (OwnsD 99 m0 (w9.setCell ⟨ob, 1, none⟩ v') v' (dualT t).gates (k + 1)) := HO9.out.other (p := ⟨ob, 1, none⟩) hsz v'
          have KF : Hid ((w9.setCell ⟨ob, 1, none⟩ v').cell? ⟨ob, 0, none⟩ = some (.int .i64 ev) ∧ (w9.setCell ⟨ob, 1, none⟩ v').cell? ⟨ob, 1, none⟩ = some v' ∧ (w9.setCell ⟨ob, 1, none⟩ v').frozen? ⟨ob, 1, none⟩ = false) := ⟨by rw [World.cell?_setCell_other _ _ _ _ (by simp), q09], by rw [World.cell?_setCell_same _ _ _ q19], by rw [World.frozen?_setCell]; exact fq19⟩
          have K2 : Hid ((w9.setCell ⟨ob, 1, none⟩ v').cell? ⟨rb, 0, none⟩ = some (.int .i64 0) ∧ (w9.setCell ⟨ob, 1, none⟩ v').cell? ⟨rb, 1, none⟩ = some (.slice none 0 0) ∧ (w9.setCell ⟨ob, 1, none⟩ v').frozen? ⟨rb, 0, none⟩ = false ∧ (w9.setCell ⟨ob, 1, none⟩ v').frozen? ⟨rb, 1, none⟩ = false ∧ (w9.setCell ⟨ob, 1, none⟩ v').cell? ⟨w.heap.size, 1, none⟩ = some (.slice (some ⟨b, off, none⟩) N pc)) := by
            have e1 : rb ≠ ob := by omega
            have e2 : w.heap.size ≠ ob := by omega
            refine ⟨by rw [World.cell?_setCell_other _ _ _ _ (fun h => by cases h)]; exact r09, by rw [World.cell?_setCell_other _ _ _ _ (fun h => by cases h; exact e1 rfl)]; exact r19, by rw [World.frozen?_setCell]; exact fr09, by rw [World.frozen?_setCell]; exact fr19, by rw [World.cell?_setCell_other _ _ _ _ (fun h => by cases h; exact e2 rfl)]; exact y19⟩
          have E10 : Ext w (w9.setCell ⟨ob, 1, none⟩ v') := Below.setCell (p := ⟨ob, 1, none⟩) E9 (by show w.heap.size ≤ ob; omega) _
          clear HO9 B BW c1 c2 c3 g0 g1 g2 q0 q1 r0 r1 y1 fq1 fr0 fr1 r09 r19 y19 fr09 fr19 HKD
          subst hv9
          go_wp2_with (at_builtin; refine wpList_appC _ rfl _ _ 22 rfl v (.slice (some ⟨W.heap.size, 0, none⟩) 1 1) rfl rfl (.slice pa9 (k + 1) pc9) w9 HR.out ?_)
          refine ⟨⟨k + 1, by omega, by go_num, ⟨_, KF.out.1, KF.out.2.1, KF.out.2.2, O10.out⟩, K2.out, by have := E10.size; simp; omega, E10⟩, by simp [intOf]; omega⟩
        · skip
          have k5 : (p == 2) = false := by rw [beq_eq_false_iff_ne]; exact hp2
          have hnd := hn0 hp2
          subst hnd
          clear hn2 hn0 hp2
          have EU := hE
          have OU := hO
          have hsz2 : (W).heap.size = W.heap.size := rfl
          obtain ⟨x0, x1, x2, f0, f1, f2⟩ := X
          have d1 := hE.cell g1
          have d2 := hE.cell g2
          have d0 := hE.cell g0
          have zx := cell_lt x0
          have zd := cell_lt d0
          dsimp only at zx zd
          have EWR : Ext wr W := EG.trans EU
          have u1 := EWR.cell q1
          have zu := cell_lt u1
          dsimp only at zu
          have uf := (Below.frozen (p := ⟨ob, 1, none⟩) EWR (by dsimp only; omega)).trans fq1
          have E2 : Ext W (W.alloc (.cells #[.int .i64 kd, .int .i64 0, .slice va L vc] 99)) := extA
          have n0 : (W.alloc (.cells #[.int .i64 kd, .int .i64 0, .slice va L vc] 99)).cell? ⟨(W).heap.size, 0, none⟩ = some (.int .i64 kd) := by rw [World.cell?_alloc_new]; rfl
          have n1 : (W.alloc (.cells #[.int .i64 kd, .int .i64 0, .slice va L vc] 99)).cell? ⟨(W).heap.size, 1, none⟩ = some (.int .i64 0) := by rw [World.cell?_alloc_new]; rfl
          have n2 : (W.alloc (.cells #[.int .i64 kd, .int .i64 0, .slice va L vc] 99)).cell? ⟨(W).heap.size, 2, none⟩ = some (.slice va L vc) := by rw [World.cell?_alloc_new]; rfl
          have hV := EG.size
          have hU := (EWR.trans E2).size
          obtain ⟨v', w9, hr, hown9, hA⟩ := ((HOW.out.ext EWR).ext E2).app (S := 22) Tryz.underlying22 infoGtC rfl HDG.out (OU.ext E2) (fun b hb => ⟨fun e => by have h1 := (hB b hb).1; have h2 := HOW.out.lt e; omega, by have h1 := (hB b hb).1; omega⟩) 1 n0 n1 n2 (by omega) (by omega)
          rw [hsz2] at hr
          have HR := Lib.hid hr
          have HO9 := Lib.hid hown9
          have BW := Lib.hid (Below.trans ((EWR.trans E2).mono hm) hA.below)
          clear hr hown9 hA n0 n1 n2 OU hU hV EU hsz2 hO hB hE E2 EWR HOW
          obtain ⟨pa9, pc9, hv9⟩ : ∃ pa9 pc9, v' = .slice pa9 (k + 1) pc9 := by
            obtain ⟨⟨f, h, _⟩, _⟩ := HO9.out
            obtain ⟨a, c, h, _⟩ := rowFull h
            exact ⟨a, c, h⟩
          have B := BW.out
          have q09 := cellB B (p := ⟨ob, 0, none⟩) hsz q0
          have q19 := cellB B (p := ⟨ob, 1, none⟩) hsz q1
          have r09 := cellB B (p := ⟨rb, 0, none⟩) (by dsimp only; omega) r0
          have r19 := cellB B (p := ⟨rb, 1, none⟩) (by dsimp only; omega) r1
          have y19 := cellB B (p := ⟨w.heap.size, 1, none⟩) (by dsimp only; omega) y1
          have fq19 := (Below.frozen (p := ⟨ob, 1, none⟩) B hsz).trans fq1
          have fr09 := (Below.frozen (p := ⟨rb, 0, none⟩) B (by dsimp only; omega)).trans fr0
          have fr19 := (Below.frozen (p := ⟨rb, 1, none⟩) B (by dsimp only; omega)).trans fr1
          have hm9 : m0 ≤ w9.heap.size := by have := B.size; omega
          have E9 : Ext w w9 := Below.trans he (B.mono (by omega))
          have zq9 := cell_lt q09
          dsimp only at zq9
          have O10 : Hid (OwnsD 99 m0 (w9.setCell ⟨ob, 1, none⟩ v') v' (dualT t).gates (k + 1)) := HO9.out.other (p := ⟨ob, 1, none⟩) hsz v'
          have KF : Hid ((w9.setCell ⟨ob, 1, none⟩ v').cell? ⟨ob, 0, none⟩ = some (.int .i64 ev) ∧ (w9.setCell ⟨ob, 1, none⟩ v').cell? ⟨ob, 1, none⟩ = some v' ∧ (w9.setCell ⟨ob, 1, none⟩ v').frozen? ⟨ob, 1, none⟩ = false) := ⟨by rw [World.cell?_setCell_other _ _ _ _ (by simp), q09], by rw [World.cell?_setCell_same _ _ _ q19], by rw [World.frozen?_setCell]; exact fq19⟩
          have K2 : Hid ((w9.setCell ⟨ob, 1, none⟩ v').cell? ⟨rb, 0, none⟩ = some (.int .i64 0) ∧ (w9.setCell ⟨ob, 1, none⟩ v').cell? ⟨rb, 1, none⟩ = some (.slice none 0 0) ∧ (w9.setCell ⟨ob, 1, none⟩ v').frozen? ⟨rb, 0, none⟩ = false ∧ (w9.setCell ⟨ob, 1, none⟩ v').frozen? ⟨rb, 1, none⟩ = false ∧ (w9.setCell ⟨ob, 1, none⟩ v').cell? ⟨w.heap.size, 1, none⟩ = some (.slice (some ⟨b, off, none⟩) N pc)) := by
            have e1 : rb ≠ ob := by omega
            have e2 : w.heap.size ≠ ob := by omega
            refine ⟨by rw [World.cell?_setCell_other _ _ _ _ (fun h => by cases h)]; exact r09, by rw [World.cell?_setCell_other _ _ _ _ (fun h => by cases h; exact e1 rfl)]; exact r19, by rw [World.frozen?_setCell]; exact fr09, by rw [World.frozen?_setCell]; exact fr19, by rw [World.cell?_setCell_other _ _ _ _ (fun h => by cases h; exact e2 rfl)]; exact y19⟩
          have E10 : Ext w (w9.setCell ⟨ob, 1, none⟩ v') := Below.setCell (p := ⟨ob, 1, none⟩) E9 (by show w.heap.size ≤ ob; omega) _
          clear HO9 B BW c1 c2 c3 g0 g1 g2 q0 q1 r0 r1 y1 fq1 fr0 fr1 r09 r19 y19 fr09 fr19 HKD
          subst hv9
          go_wp2_with (at_builtin; refine wpList_appC _ rfl _ _ 22 rfl v (.slice (some ⟨W.heap.size, 0, none⟩) 1 1) rfl rfl (.slice pa9 (k + 1) pc9) w9 HR.out ?_)
          refine ⟨⟨k + 1, by omega, by go_num, ⟨_, KF.out.1, KF.out.2.1, KF.out.2.2, O10.out⟩, K2.out, by have := E10.size; simp; omega, E10⟩, by simp [intOf]; omega⟩
    · have hke : k = N := by omega
      subst hke
      have hlt' : ¬ (k : Int) < (k : Int) := by omega
      obtain ⟨ra, rc, hv⟩ : ∃ ra rc, v = .slice ra k rc := by
        obtain ⟨⟨f, h, _⟩, _⟩ := hown
        obtain ⟨a, c, h, _⟩ := rowFull h
        exact ⟨a, c, h⟩
      subst hv
      have HOW := Lib.hid hown
      clear hown HV HRB HF HG
      go_wp2
      (try simp only [Exit.inBlock, Exit.then])
      have E11 : Ext w ((wr.setCell ⟨rb, 0, none⟩ (.int .i64 ev)).setCell ⟨rb, 1, none⟩ (.slice ra k rc)) := Below.setCell (p := ⟨rb, 1, none⟩) (Below.setCell (p := ⟨rb, 0, none⟩) he (by show w.heap.size ≤ rb; omega) _) (by show w.heap.size ≤ rb; omega) _
      have O11 : OwnsD 99 m0 ((wr.setCell ⟨rb, 0, none⟩ (.int .i64 ev)).setCell ⟨rb, 1, none⟩ (.slice ra k rc)) (.slice ra k rc) (dualT t).gates k := (HOW.out.other (p := ⟨rb, 0, none⟩) (by dsimp only; omega) _).other (p := ⟨rb, 1, none⟩) (by dsimp only; omega) _
      refine bodyPost_ret (v := .tuple #[.agg #[.int .i64 ev, .slice ra k rc], .int .i64 0]) (by rw [results_cell_tmp rfl]; go_simp) rfl ?_
      have hkl : k = (dualT t).gates.length := by rw [dual_len]; exact HN.out
      rw [HZ.out]
      have O12 := O11
      rw [hkl] at O12
      obtain ⟨pa', pc', hv, hT⟩ := OwnsD.tree O12
      injection hv with e1 e2 e3
      subst e1; subst e3
      rw [← hkl] at hT
      exact ⟨ra, rc, ret_tree HEV.out hkl rfl, hT, E11⟩
end Go.Proofs.YtlhpfhnbeagnaaaGreatDoor
namespace Go.Proofs.YtlhpfhnbeagnaaaGreatDoor
open Go.RowKit
def EmpI (W : World) (g : Nat) : Prop := W.ownsRow 0 3 1 (.slice (some ⟨g, 0, none⟩) 0 0) 0 []
theorem EmpI.made (w : World) : EmpI (w.alloc (.cells #[] 3)) w.heap.size := World.ownsRow_lit w #[] 0 (Nat.zero_le _) (Nat.zero_le _) rfl
theorem EmpI.ext {A B : World} {g : Nat} (h : EmpI A g) (e : Ext A B) : EmpI B g := rowExt h e
theorem EmpI.lt {A : World} {g : Nat} (h : EmpI A g) : g < A.heap.size := rowLt h rfl
theorem copyE_run {W : World} {g : Nat} {a : Option Addr} {l : List Int} (cap : Nat) (hg : EmpI W g) (hc : CellsI W a l) (hl : l.length ≤ 100000) :
    ∃ va vc w', (Builtin.append_ #[25, 25] 25 #[.slice (some ⟨g, 0, none⟩) 0 0, .slice a l.length cap]).run Tryz.prog W = .ok (.slice va l.length vc) w' ∧ OwnsI w' (.slice va l.length vc) l ∧ (∀ b, (Value.slice va l.length vc).ownBlock = some b → b = g ∨ W.heap.size ≤ b) ∧ (∀ n, n ≤ g → Below n W w') ∧ ∀ k, k < W.heap.size → k ≠ g → w'.heap[k]? = W.heap[k]? := by
  obtain ⟨i0, hi, hi0, hi1, hi2⟩ := info_parts infoInt
  have hgl := hg.lt
  by_cases h0 : l.length = 0
  · have hle : l = [] := List.eq_nil_of_length_eq_zero h0
    subst hle
    exact ⟨_, _, _, run_appC_empty _ _ _ _ i0 Tryz.underlying25 hi _ _ _ (Nat.le_refl _) _ _, hg, fun b hb => .inl (Option.some.inj hb).symm, fun n _ => Below.refl _ _, fun k _ _ => rfl⟩
  · obtain ⟨b, off, rfl, _⟩ := hc 0 (by omega)
    have hvl : (vals l).length = l.length * 1 := by simp [vals]
    obtain ⟨v', w', hr, h2, he⟩ := run_append1 (P := Tryz.prog) W 25 25 3 i0 (.int .i64 0) 1 8 Tryz.underlying25 hi hi0 hi1 hi2 rfl (by decide) _ 0 [] hg ⟨b, off, none⟩ l.length cap (by omega) (vals l) hvl (cells_news hc) (by
      intro u hu
      obtain ⟨x, _, rfl⟩ := List.mem_map.1 hu
      rfl) (by unfold maxLen; omega) (by omega)
    rw [Nat.zero_add, List.nil_append] at h2
    have hO : OwnsI w' v' l := h2
    obtain ⟨va, vc, hv, _⟩ := hO.full
    subst hv
    refine ⟨va, vc, w', hr, hO, fun b hb => ?_, fun n hn => he.below (by omega) (fun b hb => by have e : g = b := Option.some.inj hb; omega), fun k hk hne => he.chg.1 k hk (fun e => hne (Option.some.inj e).symm)⟩
    rcases he.chg.2.2 b hb with e | e
    · exact .inl (Option.some.inj e).symm
    · exact .inr e
theorem NewG.kept {W W' : World} {xb : Nat} {k n : Int} {m : Value} (h : NewG W xb k n m) (e : W'.heap[xb]? = W.heap[xb]?) : NewG W' xb k n m := by
  have hc : ∀ i, W'.cell? ⟨xb, i, none⟩ = W.cell? ⟨xb, i, none⟩ := fun i => by unfold World.cell?; rw [show W'.heap[(⟨xb, i, none⟩ : Addr).block]? = W.heap[(⟨xb, i, none⟩ : Addr).block]? from e]
  have hf : ∀ i, W'.frozen? ⟨xb, i, none⟩ = W.frozen? ⟨xb, i, none⟩ := fun i => by unfold World.frozen?; rw [show W'.heap[(⟨xb, i, none⟩ : Addr).block]? = W.heap[(⟨xb, i, none⟩ : Addr).block]? from e]
  exact ⟨(hc 0).trans h.c0, (hc 1).trans h.c1, (hc 2).trans h.c2, (hf 0).trans h.f0, (hf 1).trans h.f1, (hf 2).trans h.f2⟩
theorem OwnsD.same {T : TypeId} {B : Nat} {w w' : World} {v : Value} {gs : List Gt} {k : Nat} (h : OwnsD T B w v gs k) (hs : ∀ b, B ≤ b → w'.heap[b]? = w.heap[b]?) : OwnsD T B w' v gs k := by
  obtain ⟨⟨f, h1, h2⟩, h3⟩ := h
  exact ⟨⟨f, rowSame h1 (fun b hb => hs b (h3 b hb)), fun j hj => ⟨rowSame (h2 j hj).1 (fun b hb => hs b ((h2 j hj).2 b hb).2), (h2 j hj).2⟩⟩, h3⟩
def TreeO (t : Tr) (w : World) (e : Ending) (w' : World) : Prop := ∃ a cap, e = .returned (treeV t a cap) ∧ (∀ W', (∀ b, w.heap.size ≤ b → W'.heap[b]? = w'.heap[b]?) → TreeG W' t a cap) ∧ Ext w w'
def TurX (w : World) (gb : Nat) (p : Int) (ai : Option Addr) (L ci : Nat) (l : List Int) (a0 a : Act) (W : World) : Prop :=
  ∃ xb eb va vc, a = ((((((((a0.put (some 22) (.pointer (some ⟨gb, 0, none⟩))).put (some 23) (.int .i64 p)).put (some 24) (.int .i64 (1 - p))).put (some 25) (.slice (some ⟨eb, 0, none⟩) 0 0)).put (some 26) (.pointer (some ⟨gb, 2, none⟩))).put (some 27) (.slice ai L ci)).put (some 28) (.slice va L vc)).put (some 29) (.agg #[.int .i64 (1 - p), .int .i64 0, .slice va L vc])).put (some 6) (.pointer (some ⟨xb, 0, none⟩)) ∧
    NewG W xb (1 - p) 0 (.slice va L vc) ∧ OwnsI W (.slice va L vc) l ∧ (∀ b, (Value.slice va L vc).ownBlock = some b → w.heap.size ≤ b ∧ b ≠ xb) ∧ w.heap.size ≤ xb ∧ Ext w W
set_option maxHeartbeats 16000000 in
set_option maxRecDepth 100000 in
theorem Turned_any {t : Tr} {pa : Option Addr} {pc : Nat} {w : World} (ht : TreeG w t pa pc) (hOK : TrOk t) :
    Calls Tryz.prog 72 #[treeV t pa pc] w (TreeO (dualT t) w) := by
  obtain ⟨f, hf⟩ := gates_fn ht.cells
  have HF := Lib.hid hf
  unfold treeV
  obtain ⟨N, hN⟩ : ∃ N, N = t.gates.length := ⟨_, rfl⟩
  obtain ⟨ev, hev⟩ : ∃ ev, ev = t.ev := ⟨_, rfl⟩
  rw [← hN, ← hev]
  have HN := Lib.hid hN
  have HEV := Lib.hid hev
  have HG := Lib.hid (fun k (hk : k < t.gates.length) => gtsOk_at _ _ k hOK.ok hk)
  have hl : N ≤ 64 := by rw [hN]; exact hOK.g2
  clear hf ht hN hev hOK
  go_enter Tryz.func72, Tryz.ntmps72
  go_wp2
  have E2 : Ext w (((w.alloc (.cells #[.int .i64 ev, .slice pa N pc] 35)).alloc (.cells #[.int .i64 0, .slice none 0 0] 35)).alloc (.cells #[.int .i64 ev, .slice none 0 0] 35)) := extA
  have y1 : (((w.alloc (.cells #[.int .i64 ev, .slice pa N pc] 35)).alloc (.cells #[.int .i64 0, .slice none 0 0] 35)).alloc (.cells #[.int .i64 ev, .slice none 0 0] 35)).cell? ⟨w.heap.size, 1, none⟩ = some (.slice pa N pc) := by go_simp
  have r0 : (((w.alloc (.cells #[.int .i64 ev, .slice pa N pc] 35)).alloc (.cells #[.int .i64 0, .slice none 0 0] 35)).alloc (.cells #[.int .i64 ev, .slice none 0 0] 35)).cell? ⟨w.heap.size + 1, 0, none⟩ = some (.int .i64 0) := by go_simp
  have r1 : (((w.alloc (.cells #[.int .i64 ev, .slice pa N pc] 35)).alloc (.cells #[.int .i64 0, .slice none 0 0] 35)).alloc (.cells #[.int .i64 ev, .slice none 0 0] 35)).cell? ⟨w.heap.size + 1, 1, none⟩ = some (.slice none 0 0) := by go_simp
  have q0 : (((w.alloc (.cells #[.int .i64 ev, .slice pa N pc] 35)).alloc (.cells #[.int .i64 0, .slice none 0 0] 35)).alloc (.cells #[.int .i64 ev, .slice none 0 0] 35)).cell? ⟨w.heap.size + 1 + 1, 0, none⟩ = some (.int .i64 ev) := by go_simp
  have q1 : (((w.alloc (.cells #[.int .i64 ev, .slice pa N pc] 35)).alloc (.cells #[.int .i64 0, .slice none 0 0] 35)).alloc (.cells #[.int .i64 ev, .slice none 0 0] 35)).cell? ⟨w.heap.size + 1 + 1, 1, none⟩ = some (.slice none 0 0) := by go_simp
  have fr0 : (((w.alloc (.cells #[.int .i64 ev, .slice pa N pc] 35)).alloc (.cells #[.int .i64 0, .slice none 0 0] 35)).alloc (.cells #[.int .i64 ev, .slice none 0 0] 35)).frozen? ⟨w.heap.size + 1, 0, none⟩ = false := by go_simp
  have fr1 : (((w.alloc (.cells #[.int .i64 ev, .slice pa N pc] 35)).alloc (.cells #[.int .i64 0, .slice none 0 0] 35)).alloc (.cells #[.int .i64 ev, .slice none 0 0] 35)).frozen? ⟨w.heap.size + 1, 1, none⟩ = false := by go_simp
  have fq1 : (((w.alloc (.cells #[.int .i64 ev, .slice pa N pc] 35)).alloc (.cells #[.int .i64 0, .slice none 0 0] 35)).alloc (.cells #[.int .i64 ev, .slice none 0 0] 35)).frozen? ⟨w.heap.size + 1 + 1, 1, none⟩ = false := by go_simp
  have hsz : w.heap.size + 1 + 1 < (((w.alloc (.cells #[.int .i64 ev, .slice pa N pc] 35)).alloc (.cells #[.int .i64 0, .slice none 0 0] 35)).alloc (.cells #[.int .i64 ev, .slice none 0 0] 35)).heap.size := cell_lt q0
  obtain ⟨rb, hrb⟩ : ∃ rb, rb = w.heap.size + 1 := ⟨_, rfl⟩
  obtain ⟨ob, hob⟩ : ∃ ob, ob = w.heap.size + 1 + 1 := ⟨_, rfl⟩
  rw [← hob] at q0 q1 fq1 hsz ⊢
  rw [← hrb] at r0 r1 fr0 fr1 ⊢
  have hwr : w.heap.size < rb := by omega
  have hrob : rb < ob := by omega
  clear hrb hob
  generalize (((w.alloc (.cells #[.int .i64 ev, .slice pa N pc] 35)).alloc (.cells #[.int .i64 0, .slice none 0 0] 35)).alloc (.cells #[.int .i64 ev, .slice none 0 0] 35)) = W at E2 y1 r0 r1 q0 q1 fr0 fr1 fq1 hsz ⊢
  obtain ⟨m0, hm0⟩ : ∃ m0, m0 = W.heap.size := ⟨_, rfl⟩
  rw [← hm0] at hsz
  go_loopw [4] (fun i wr => ∃ k : Nat, k ≤ N ∧ i = .int .i64 k ∧ Hid (∃ v, wr.cell? ⟨ob, 0, none⟩ = some (.int .i64 ev) ∧ wr.cell? ⟨ob, 1, none⟩ = some v ∧ wr.frozen? ⟨ob, 1, none⟩ = false ∧ OwnsD 100 m0 wr v (dualT t).gates k) ∧ Hid (wr.cell? ⟨rb, 0, none⟩ = some (.int .i64 0) ∧ wr.cell? ⟨rb, 1, none⟩ = some (.slice none 0 0) ∧ wr.frozen? ⟨rb, 0, none⟩ = false ∧ wr.frozen? ⟨rb, 1, none⟩ = false ∧ wr.cell? ⟨w.heap.size, 1, none⟩ = some (.slice pa N pc)) ∧ m0 ≤ wr.heap.size ∧ Ext w wr) (fun i _ => N - (intOf i).toNat)
  case atStart => exact ⟨0, Nat.zero_le _, rfl, ⟨_, q0, q1, fq1, OwnsD.nil _ _ _ _⟩, ⟨r0, r1, fr0, fr1, y1⟩, by omega, E2⟩
  case round =>
    clear y1 r0 r1 q0 q1 fr0 fr1 fq1 E2 hm0
    obtain ⟨k, hk, rfl, HV, HRB, hm, he⟩ := hrel
    obtain ⟨v, q0, q1, fq1, hown⟩ := HV.out
    obtain ⟨r0, r1, fr0, fr1, y1⟩ := HRB.out
    have zq := cell_lt q0
    have zr := cell_lt r0
    have zy := cell_lt y1
    dsimp only at zq zr zy
    by_cases hlt : k < N
    · have hlt' : (k : Int) < (N : Int) := by omega
      obtain ⟨c, hgk⟩ := HG.out k (by rw [← HN.out]; exact hlt)
      obtain ⟨kd, nd, hdg, hkd, hn2, hn0, hL64, hm1, hm2, hm3⟩ := dualG_parts hgk
      obtain ⟨b, off, rfl, c1, c2, c3, cs⟩ := HF.out k (by rw [← HN.out]; exact hlt)
      have c1 := he.cell c1
      have c2 := he.cell c2
      have c3 := he.cell c3
      obtain ⟨ai, ci, hfk, cs, _, _⟩ := cs.ext he
      rw [hfk] at c3
      have HDG : Hid ((dualT t).gates.getD k gt0 = ⟨kd, nd, (t.gates.getD k gt0).args⟩) := by show _ = _; rw [dual_at (by rw [← HN.out]; exact hlt), hdg]
      have HCL := Lib.hid (fun W g (hg : EmpI W g) (hW : Ext wr W) => copyE_run ci hg (cs.ext hW) (by omega))
      have hp0 := hgk.k0
      have hp3 := hgk.k1
      clear hgk hdg cs hfk
      generalize (t.gates.getD k gt0).args = l at c3 HDG HCL hL64 hn2
      obtain ⟨L, hLl⟩ : ∃ L, L = l.length := ⟨_, rfl⟩
      rw [← hLl] at c3 HCL hL64 hn2
      have HLL := Lib.hid hLl
      clear hLl
      generalize (t.gates.getD k gt0).kind = p at c1 hkd hn2 hn0 hp0 hp3
      generalize (t.gates.getD k gt0).need = m at c2 hn2 hm1 hm2 hm3
      have zb := cell_lt c1
      dsimp only at zb
      have HKD := Lib.hid hkd
      have HOW := Lib.hid hown
      clear hkd hown
      go_wp2
      have EG : Ext wr (wr.alloc (.cells #[.int .i64 p, .int .i64 m, .slice ai L ci] 100)) := extA
      have g0 : (wr.alloc (.cells #[.int .i64 p, .int .i64 m, .slice ai L ci] 100)).cell? ⟨wr.heap.size, 0, none⟩ = some (.int .i64 p) := by go_simp
      have g1 : (wr.alloc (.cells #[.int .i64 p, .int .i64 m, .slice ai L ci] 100)).cell? ⟨wr.heap.size, 1, none⟩ = some (.int .i64 m) := by go_simp
      have g2 : (wr.alloc (.cells #[.int .i64 p, .int .i64 m, .slice ai L ci] 100)).cell? ⟨wr.heap.size, 2, none⟩ = some (.slice ai L ci) := by go_simp
      obtain ⟨gb, hgb⟩ : ∃ gb, gb = wr.heap.size := ⟨_, rfl⟩
      rw [← hgb] at g0 g1 g2 ⊢
      have HGB := Lib.hid hgb
      clear hgb
      generalize (wr.alloc (.cells #[.int .i64 p, .int .i64 m, .slice ai L ci] 100)) = V at EG g0 g1 g2 ⊢
      have hwp : IntKind.i64.wrap (1 - p) = 1 - p := IntWalk.i64_in _ (by omega)
      refine wp_keyC (TurX V gb p ai L ci l) ?tail ?reg
      case reg =>
        intro hQ
        clear HV HRB HOW HG HF q0 q1 fq1 r0 r1 fr0 fr1 y1
        have hS : Ext V V.drew := extA
        refine wp_region_heldE 9 (Ext V) (by kernel_rfl) ?_
        generalize V.drew = v1 at hS ⊢
        ((refine ePu 0 ?_); (refine ePu 4 ?_))
        (refine wpAnyE_take (oi := ?_) (v := ?_) (i := 1) ?_ (by kernel_rfl) ?_ ?_ (by assumption) ?_; rotate_left 2; (focus ((simp only [List.getElem?_toArray, List.getElem?_cons_succ, List.getElem?_cons_zero]; exact rfl))); (focus (exact fun _ _ _ h => h)); (focus (refine Or.inl ⟨by rfl, ?_⟩; intro w hSw; have hg0 := hSw.cell g0; have zg0 := cell_lt hg0; dsimp only at zg0; (first | (go_simp; done) | (go_simp; with_reducible rfl)))); (try simp only [Act.put, List.setIfInBounds_toArray, List.set_cons_zero, List.set_cons_succ]))
        (refine wpAnyE_take (oi := ?_) (v := ?_) (i := 5) ?_ (by kernel_rfl) ?_ ?_ (by assumption) ?_; rotate_left 2; (focus ((simp only [List.getElem?_toArray, List.getElem?_cons_succ, List.getElem?_cons_zero]; exact rfl))); (focus (exact fun _ _ _ h => h)); (focus (refine Or.inl ⟨by rfl, ?_⟩; intro w hSw; have hg2 := hSw.cell g2; have zg2 := cell_lt hg2; dsimp only at zg2; (first | (go_simp; done) | (go_simp; with_reducible rfl)))); (try simp only [Act.put, List.setIfInBounds_toArray, List.set_cons_zero, List.set_cons_succ]))
        (refine ePu 2 ?_)
        refine wpAnyE_two (i := 3) (j := 8) (o := ?_) (p := ?_) (by (simp only [List.getElem?_toArray, List.getElem?_cons_succ, List.getElem?_cons_zero]; exact rfl)) (by (simp only [List.getElem?_toArray, List.getElem?_cons_succ, List.getElem?_cons_zero]; exact rfl)) (by kernel_rfl) (fun K hK => ?_) (fun K hK => ?_)
        · skip
          have hE : Ext v1 (v1.alloc (.cells #[] 3)) := extA
          have EM := EmpI.made v1
          obtain ⟨eb, heb⟩ : ∃ q, q = v1.heap.size := ⟨_, rfl⟩
          have hew : V.heap.size ≤ eb := by rw [heb]; exact hS.size
          go_simp
          refine hK.out _ _ (hS.trans hE) (fun hHeld => ?_)
          clear hK K hHeld
          (try simp only [Act.put, List.setIfInBounds_toArray, List.set_cons_zero, List.set_cons_succ])
          rw [← heb] at EM ⊢
          replace hS := hS.trans hE
          clear hE heb
          generalize (v1.alloc (.cells #[] 3)) = v2 at EM hS ⊢
          refine wpAnyE_two (i := 6) (j := 8) (o := ?_) (p := ?_) (by (simp only [List.getElem?_toArray, List.getElem?_cons_succ, List.getElem?_cons_zero]; exact rfl)) (by (simp only [List.getElem?_toArray, List.getElem?_cons_succ, List.getElem?_cons_zero]; exact rfl)) (by kernel_rfl) (fun K hK => ?_) (fun K hK => ?_)
          · skip
            obtain ⟨va, vc, v3, hr, hO, hB, hBl, hKp⟩ := HCL.out v2 eb EM (EG.trans hS)
            have HR := Lib.hid hr
            have HO := Lib.hid hO
            have HB := Lib.hid hB
            have hS2 : Ext V v3 := Below.trans hS (hBl _ hew)
            have hEl := EM.lt
            clear hr hO hB
            refine step_app rfl _ _ 25 25 rfl (.slice (some ⟨eb, 0, none⟩) 0 0) (.slice ai L ci) rfl rfl _ _ HR.out ?_
            refine hK.out _ _ hS2 (fun hHeld => ?_)
            clear hK K hHeld HR
            (try simp only [Act.put, List.setIfInBounds_toArray, List.set_cons_zero, List.set_cons_succ])
            replace hS := hS2
            have HB1 : Hid (∀ b, (Value.slice va L vc).ownBlock = some b → V.heap.size ≤ b ∧ b < v3.heap.size) := fun b hb => ⟨by rcases HB.out b hb with e | e <;> omega, HO.out.lt hb⟩
            clear hS2 HB hBl hKp hEl EM
            (refine ePu 7 ?_)
            refine wpAnyE_one (i := 8) (o := ?_) ?_ (by kernel_rfl) (fun K hK => ?_)
            rotate_left
            · (simp only [List.getElem?_toArray, List.getElem?_cons_succ, List.getElem?_cons_zero]; exact rfl)
            have hE : Ext v3 (v3.alloc (.cells #[.int .i64 0, .int .i64 0, .slice none 0 0] 100)) := extA
            have X := NewG.made v3 100
            obtain ⟨xb, hxb⟩ : ∃ q, q = v3.heap.size := ⟨_, rfl⟩
            have hxw : V.heap.size ≤ xb := by rw [hxb]; exact hS.size
            go_simp
            refine hK.out _ _ (hS.trans hE) (fun hHeld => ?_)
            clear hK K hHeld
            (try simp only [Act.put, List.setIfInBounds_toArray, List.set_cons_zero, List.set_cons_succ])
            rw [← hxb] at X ⊢
            replace hS := hS.trans hE
            have HB2 : Hid (∀ b, (Value.slice va L vc).ownBlock = some b → V.heap.size ≤ b ∧ b ≠ xb) := fun b hb => ⟨(HB1.out b hb).1, by have := (HB1.out b hb).2; omega⟩
            replace HO := Lib.hid (HO.out.ext hE)
            clear hE HB1 hxb
            generalize (v3.alloc (.cells #[.int .i64 0, .int .i64 0, .slice none 0 0] 100)) = v4 at X hS HO ⊢
            have X2 := ((X.set0 (1 - p)).set1 0).set2 (.slice va L vc)
            have E3 : Ext V (((v4.setCell ⟨xb, 0, none⟩ (.int .i64 (1 - p))).setCell ⟨xb, 1, none⟩ (.int .i64 0)).setCell ⟨xb, 2, none⟩ (.slice va L vc)) := Below.setCell (p := ⟨xb, 2, none⟩) (Below.setCell (p := ⟨xb, 1, none⟩) (Below.setCell (p := ⟨xb, 0, none⟩) hS hxw _) hxw _) hxw _
            have O3 : Hid (OwnsI (((v4.setCell ⟨xb, 0, none⟩ (.int .i64 (1 - p))).setCell ⟨xb, 1, none⟩ (.int .i64 0)).setCell ⟨xb, 2, none⟩ (.slice va L vc)) (.slice va L vc) l) := by
              refine rowSame HO.out fun b hb => ?_
              rw [Below.heap_setCell _ _ _ _ (HB2.out b hb).2, Below.heap_setCell _ _ _ _ (HB2.out b hb).2, Below.heap_setCell _ _ _ _ (HB2.out b hb).2]
            obtain ⟨x0, x1, x2, f0, f1, f2⟩ := X
            have zx := cell_lt x0
            dsimp only at zx
            clear HO
            (refine wpAnyE_free (i := 9) (o := ?_) ?_ (by kernel_rfl) (by kernel_rfl) (fun K hK => ?_); rotate_left; (focus ((simp only [List.getElem?_toArray, List.getElem?_cons_succ, List.getElem?_cons_zero]; exact rfl))); go_simp; refine hK.out _ _ ?_; clear hK K; (try simp only [Act.put, List.setIfInBounds_toArray, List.set_cons_zero, List.set_cons_succ]))
            refine wpAnyE_done (by kernel_rfl) ?_ _
            refine hQ _ _ ⟨xb, eb, va, vc, ?_, X2, O3.out, HB2.out, hxw, E3⟩
            simp only [Act.put, List.setIfInBounds_toArray, List.set_cons_zero, List.set_cons_succ]
          · skip
            have hE : Ext v2 (v2.alloc (.cells #[.int .i64 0, .int .i64 0, .slice none 0 0] 100)) := extA
            have X := NewG.made v2 100
            obtain ⟨xb, hxb⟩ : ∃ q, q = v2.heap.size := ⟨_, rfl⟩
            have hxw : V.heap.size ≤ xb := by rw [hxb]; exact hS.size
            go_simp
            refine hK.out _ _ (hS.trans hE) (fun hHeld => ?_)
            clear hK K hHeld
            (try simp only [Act.put, List.setIfInBounds_toArray, List.set_cons_zero, List.set_cons_succ])
            rw [← hxb] at X ⊢
            replace hS := hS.trans hE
            have hxe : eb ≠ xb := by have := EM.lt; omega
            replace EM := EM.ext hE
            have zxb := cell_lt X.c0
            clear hE hxb
            generalize (v2.alloc (.cells #[.int .i64 0, .int .i64 0, .slice none 0 0] 100)) = v3 at X hS EM zxb ⊢
            refine wpAnyE_one (i := 6) (o := ?_) ?_ (by kernel_rfl) (fun K hK => ?_)
            rotate_left
            · (simp only [List.getElem?_toArray, List.getElem?_cons_succ, List.getElem?_cons_zero]; exact rfl)
            obtain ⟨va, vc, v4, hr, hO, hB, hBl, hKp⟩ := HCL.out v3 eb EM (EG.trans hS)
            have HR := Lib.hid hr
            have HO := Lib.hid hO
            have HB := Lib.hid hB
            have hS2 : Ext V v4 := Below.trans hS (hBl _ hew)
            have hEl := EM.lt
            clear hr hO hB
            refine step_app rfl _ _ 25 25 rfl (.slice (some ⟨eb, 0, none⟩) 0 0) (.slice ai L ci) rfl rfl _ _ HR.out ?_
            refine hK.out _ _ hS2 (fun hHeld => ?_)
            clear hK K hHeld HR
            (try simp only [Act.put, List.setIfInBounds_toArray, List.set_cons_zero, List.set_cons_succ])
            have HB2 : Hid (∀ b, (Value.slice va L vc).ownBlock = some b → V.heap.size ≤ b ∧ b ≠ xb) := fun b hb => ⟨by rcases HB.out b hb with e | e <;> omega, by dsimp only at zxb; rcases HB.out b hb with e | e <;> omega⟩
            replace X := X.kept (hKp xb zxb (Ne.symm hxe))
            replace hS := hS2
            clear hS2 HB hBl hKp hEl EM zxb
            have X2 := ((X.set0 (1 - p)).set1 0).set2 (.slice va L vc)
            have E3 : Ext V (((v4.setCell ⟨xb, 0, none⟩ (.int .i64 (1 - p))).setCell ⟨xb, 1, none⟩ (.int .i64 0)).setCell ⟨xb, 2, none⟩ (.slice va L vc)) := Below.setCell (p := ⟨xb, 2, none⟩) (Below.setCell (p := ⟨xb, 1, none⟩) (Below.setCell (p := ⟨xb, 0, none⟩) hS hxw _) hxw _) hxw _
            have O3 : Hid (OwnsI (((v4.setCell ⟨xb, 0, none⟩ (.int .i64 (1 - p))).setCell ⟨xb, 1, none⟩ (.int .i64 0)).setCell ⟨xb, 2, none⟩ (.slice va L vc)) (.slice va L vc) l) := by
              refine rowSame HO.out fun b hb => ?_
              rw [Below.heap_setCell _ _ _ _ (HB2.out b hb).2, Below.heap_setCell _ _ _ _ (HB2.out b hb).2, Below.heap_setCell _ _ _ _ (HB2.out b hb).2]
            obtain ⟨x0, x1, x2, f0, f1, f2⟩ := X
            have zx := cell_lt x0
            dsimp only at zx
            clear HO
            (refine ePu 7 ?_)
            (refine wpAnyE_free (i := 9) (o := ?_) ?_ (by kernel_rfl) (by kernel_rfl) (fun K hK => ?_); rotate_left; (focus ((simp only [List.getElem?_toArray, List.getElem?_cons_succ, List.getElem?_cons_zero]; exact rfl))); go_simp; refine hK.out _ _ ?_; clear hK K; (try simp only [Act.put, List.setIfInBounds_toArray, List.set_cons_zero, List.set_cons_succ]))
            refine wpAnyE_done (by kernel_rfl) ?_ _
            refine hQ _ _ ⟨xb, eb, va, vc, ?_, X2, O3.out, HB2.out, hxw, E3⟩
            simp only [Act.put, List.setIfInBounds_toArray, List.set_cons_zero, List.set_cons_succ]
        · skip
          have hE : Ext v1 (v1.alloc (.cells #[.int .i64 0, .int .i64 0, .slice none 0 0] 100)) := extA
          have X := NewG.made v1 100
          obtain ⟨xb, hxb⟩ : ∃ q, q = v1.heap.size := ⟨_, rfl⟩
          have hxw : V.heap.size ≤ xb := by rw [hxb]; exact hS.size
          go_simp
          refine hK.out _ _ (hS.trans hE) (fun hHeld => ?_)
          clear hK K hHeld
          (try simp only [Act.put, List.setIfInBounds_toArray, List.set_cons_zero, List.set_cons_succ])
          rw [← hxb] at X ⊢
          replace hS := hS.trans hE
          have zxb := cell_lt X.c0
          clear hE hxb
          generalize (v1.alloc (.cells #[.int .i64 0, .int .i64 0, .slice none 0 0] 100)) = v2 at X hS zxb ⊢
          refine wpAnyE_one (i := 3) (o := ?_) ?_ (by kernel_rfl) (fun K hK => ?_)
          rotate_left
          · (simp only [List.getElem?_toArray, List.getElem?_cons_succ, List.getElem?_cons_zero]; exact rfl)
          have hE : Ext v2 (v2.alloc (.cells #[] 3)) := extA
          have EM := EmpI.made v2
          obtain ⟨eb, heb⟩ : ∃ q, q = v2.heap.size := ⟨_, rfl⟩
          have hew : V.heap.size ≤ eb := by rw [heb]; exact hS.size
          go_simp
          refine hK.out _ _ (hS.trans hE) (fun hHeld => ?_)
          clear hK K hHeld
          (try simp only [Act.put, List.setIfInBounds_toArray, List.set_cons_zero, List.set_cons_succ])
          rw [← heb] at EM ⊢
          replace hS := hS.trans hE
          have hxe : eb ≠ xb := by dsimp only at zxb; omega
          replace X := X.ext hE
          replace zxb := cell_lt X.c0
          clear hE heb
          generalize (v2.alloc (.cells #[] 3)) = v3 at X hS EM zxb ⊢
          refine wpAnyE_one (i := 6) (o := ?_) ?_ (by kernel_rfl) (fun K hK => ?_)
          rotate_left
          · (simp only [List.getElem?_toArray, List.getElem?_cons_succ, List.getElem?_cons_zero]; exact rfl)
          obtain ⟨va, vc, v4, hr, hO, hB, hBl, hKp⟩ := HCL.out v3 eb EM (EG.trans hS)
          have HR := Lib.hid hr
          have HO := Lib.hid hO
          have HB := Lib.hid hB
          have hS2 : Ext V v4 := Below.trans hS (hBl _ hew)
          have hEl := EM.lt
          clear hr hO hB
          refine step_app rfl _ _ 25 25 rfl (.slice (some ⟨eb, 0, none⟩) 0 0) (.slice ai L ci) rfl rfl _ _ HR.out ?_
          refine hK.out _ _ hS2 (fun hHeld => ?_)
          clear hK K hHeld HR
          (try simp only [Act.put, List.setIfInBounds_toArray, List.set_cons_zero, List.set_cons_succ])
          have HB2 : Hid (∀ b, (Value.slice va L vc).ownBlock = some b → V.heap.size ≤ b ∧ b ≠ xb) := fun b hb => ⟨by rcases HB.out b hb with e | e <;> omega, by dsimp only at zxb; rcases HB.out b hb with e | e <;> omega⟩
          replace X := X.kept (hKp xb zxb (Ne.symm hxe))
          replace hS := hS2
          clear hS2 HB hBl hKp hEl EM zxb
          have X2 := ((X.set0 (1 - p)).set1 0).set2 (.slice va L vc)
          have E3 : Ext V (((v4.setCell ⟨xb, 0, none⟩ (.int .i64 (1 - p))).setCell ⟨xb, 1, none⟩ (.int .i64 0)).setCell ⟨xb, 2, none⟩ (.slice va L vc)) := Below.setCell (p := ⟨xb, 2, none⟩) (Below.setCell (p := ⟨xb, 1, none⟩) (Below.setCell (p := ⟨xb, 0, none⟩) hS hxw _) hxw _) hxw _
          have O3 : Hid (OwnsI (((v4.setCell ⟨xb, 0, none⟩ (.int .i64 (1 - p))).setCell ⟨xb, 1, none⟩ (.int .i64 0)).setCell ⟨xb, 2, none⟩ (.slice va L vc)) (.slice va L vc) l) := by
            refine rowSame HO.out fun b hb => ?_
            rw [Below.heap_setCell _ _ _ _ (HB2.out b hb).2, Below.heap_setCell _ _ _ _ (HB2.out b hb).2, Below.heap_setCell _ _ _ _ (HB2.out b hb).2]
          obtain ⟨x0, x1, x2, f0, f1, f2⟩ := X
          have zx := cell_lt x0
          dsimp only at zx
          clear HO
          (refine ePu 7 ?_)
          (refine wpAnyE_free (i := 9) (o := ?_) ?_ (by kernel_rfl) (by kernel_rfl) (fun K hK => ?_); rotate_left; (focus ((simp only [List.getElem?_toArray, List.getElem?_cons_succ, List.getElem?_cons_zero]; exact rfl))); go_simp; refine hK.out _ _ ?_; clear hK K; (try simp only [Act.put, List.setIfInBounds_toArray, List.set_cons_zero, List.set_cons_succ]))
          refine wpAnyE_done (by kernel_rfl) ?_ _
          refine hQ _ _ ⟨xb, eb, va, vc, ?_, X2, O3.out, HB2.out, hxw, E3⟩
          simp only [Act.put, List.setIfInBounds_toArray, List.set_cons_zero, List.set_cons_succ]
      case tail =>
        rintro a W ⟨xb, eb, va, vc, rfl, X, hO, hB, hxb, hE⟩
        clear HG HF HCL
        by_cases hp2 : p = 2
        · skip
          have hnd := hn2 hp2
          have hk2 : kd = 2 := by have := HKD.out; omega
          have hw1 : IntKind.i64.wrap ((L : Int) + 1) = (L : Int) + 1 := IntWalk.i64_in _ (by omega)
          have hw2 : IntKind.i64.wrap ((L : Int) + 1 - m) = (L : Int) + 1 - m := IntWalk.i64_in _ (by omega)
          subst hp2
          clear hn2 hn0
          have HND := Lib.hid hnd
          have HK2 := Lib.hid hk2
          clear hnd hk2
          have d0 := hE.cell g0
          have zd := cell_lt d0
          dsimp only at zd
          go_wp2
          clear d0 zd
          refine wp_region_heldE 10 (Ext V) (by kernel_rfl) ?_
          have hS : Ext V W.drew := hE.trans extA
          replace X := X.ext (show Ext W W.drew from extA)
          have HO := Lib.hid (hO.ext (show Ext W W.drew from extA))
          clear hE hO
          generalize W.drew = v1 at hS X HO ⊢
          ((refine ePu 0 ?_); (refine ePu 4 ?_); (refine ePu 7 ?_))
          (refine wpAnyE_take (oi := ?_) (v := ?_) (i := 1) ?_ (by kernel_rfl) ?_ ?_ (by assumption) ?_; rotate_left 2; (focus ((simp only [List.getElem?_toArray, List.getElem?_cons_succ, List.getElem?_cons_zero]; exact rfl))); (focus (exact fun _ _ _ h => h)); (focus (refine Or.inl ⟨by rfl, ?_⟩; intro w hSw; have hg2 := hSw.cell g2; have zg2 := cell_lt hg2; dsimp only at zg2; (first | (go_simp; done) | (go_simp; with_reducible rfl)))); (try simp only [Act.put, List.setIfInBounds_toArray, List.set_cons_zero, List.set_cons_succ]))
          (refine wpAnyE_take (oi := ?_) (v := ?_) (i := 5) ?_ (by kernel_rfl) ?_ ?_ (by assumption) ?_; rotate_left 2; (focus ((simp only [List.getElem?_toArray, List.getElem?_cons_succ, List.getElem?_cons_zero]; exact rfl))); (focus (exact fun _ _ _ h => h)); (focus (refine Or.inl ⟨by rfl, ?_⟩; intro w hSw; have hg1 := hSw.cell g1; have zg1 := cell_lt hg1; dsimp only at zg1; (first | (go_simp; done) | (go_simp; with_reducible rfl)))); (try simp only [Act.put, List.setIfInBounds_toArray, List.set_cons_zero, List.set_cons_succ]))
          ((refine ePu 2 ?_); (refine ePu 3 ?_); (refine ePu 6 ?_))
          have hS2 : Ext V (v1.setCell ⟨xb, 0, none⟩ (.int .i64 2)) := Below.setCell (p := ⟨xb, 0, none⟩) hS hxb _
          have X2 := X.set0 2
          have HO2 : Hid (OwnsI (v1.setCell ⟨xb, 0, none⟩ (.int .i64 2)) (.slice va L vc) l) := rowSame HO.out (fun b hb => Below.heap_setCell _ _ _ _ (hB b hb).2)
          obtain ⟨x0, x1, x2, f0, f1, f2⟩ := X
          have zx := cell_lt x0
          dsimp only at zx
          refine wpAnyE_one (i := 8) (o := ?_) ?_ (by kernel_rfl) (fun K hK => ?_)
          rotate_left
          · (simp only [List.getElem?_toArray, List.getElem?_cons_succ, List.getElem?_cons_zero]; exact rfl)
          go_simp
          refine hK.out _ _ hS2 (fun hHeld => ?_)
          clear hK K hHeld x0 x1 x2 f0 f1 f2 zx hS HO
          (try simp only [Act.put, List.setIfInBounds_toArray, List.set_cons_zero, List.set_cons_succ])
          generalize (v1.setCell ⟨xb, 0, none⟩ (.int .i64 2)) = v5 at hS2 X2 HO2 ⊢
          (refine ePu 9 ?_)
          have EU : Ext V (v5.setCell ⟨xb, 1, none⟩ (.int .i64 ((L : Int) + 1 - m))) := Below.setCell (p := ⟨xb, 1, none⟩) hS2 hxb _
          have NX := X2.set1 ((L : Int) + 1 - m)
          have OU : OwnsI (v5.setCell ⟨xb, 1, none⟩ (.int .i64 ((L : Int) + 1 - m))) (.slice va L vc) l := rowSame HO2.out (fun b hb => Below.heap_setCell _ _ _ _ (hB b hb).2)
          obtain ⟨x0, x1, x2, f0, f1, f2⟩ := X2
          have zx := cell_lt x0
          dsimp only at zx
          (refine wpAnyE_free (i := 10) (o := ?_) ?_ (by kernel_rfl) (by kernel_rfl) (fun K hK => ?_); rotate_left; (focus ((simp only [List.getElem?_toArray, List.getElem?_cons_succ, List.getElem?_cons_zero]; exact rfl))); go_simp; refine hK.out _ _ ?_; clear hK K; (try simp only [Act.put, List.setIfInBounds_toArray, List.set_cons_zero, List.set_cons_succ]))
          refine wpAnyE_done (by kernel_rfl) ?_ _
          clear x0 x1 x2 f0 f1 f2 zx hS2 HO2
          generalize (v5.setCell ⟨xb, 1, none⟩ (.int .i64 ((L : Int) + 1 - m))) = U at EU NX OU ⊢
          rw [← HND.out, ← HK2.out] at NX
          obtain ⟨x0, x1, x2, f0, f1, f2⟩ := NX
          have zx := cell_lt x0
          dsimp only at zx
          have EWR : Ext wr U := EG.trans EU
          have u1 := EWR.cell q1
          have zu := cell_lt u1
          dsimp only at zu
          have uf := (Below.frozen (p := ⟨ob, 1, none⟩) EWR (by dsimp only; omega)).trans fq1
          have E2 : Ext U (U.alloc (.cells #[.int .i64 kd, .int .i64 nd, .slice va L vc] 100)) := extA
          have n0 : (U.alloc (.cells #[.int .i64 kd, .int .i64 nd, .slice va L vc] 100)).cell? ⟨(U).heap.size, 0, none⟩ = some (.int .i64 kd) := by rw [World.cell?_alloc_new]; rfl
          have n1 : (U.alloc (.cells #[.int .i64 kd, .int .i64 nd, .slice va L vc] 100)).cell? ⟨(U).heap.size, 1, none⟩ = some (.int .i64 nd) := by rw [World.cell?_alloc_new]; rfl
          have n2 : (U.alloc (.cells #[.int .i64 kd, .int .i64 nd, .slice va L vc] 100)).cell? ⟨(U).heap.size, 2, none⟩ = some (.slice va L vc) := by rw [World.cell?_alloc_new]; rfl
          have hV := EG.size
          have hU := (EWR.trans E2).size
          obtain ⟨v', w9, hr, hown9, hA⟩ := ((HOW.out.ext EWR).ext E2).app (S := 33) Tryz.underlying33 infoGtR rfl HDG.out (OU.ext E2) (fun b hb => ⟨fun e => by have h1 := (hB b hb).1; have h2 := HOW.out.lt e; omega, by have h1 := (hB b hb).1; omega⟩) 1 n0 n1 n2 (by omega) (by omega)
          have HR := Lib.hid hr
          have HO9 := Lib.hid hown9
          have BW := Lib.hid (Below.trans ((EWR.trans E2).mono hm) hA.below)
          clear hr hown9 hA n0 n1 n2 OU hU hV EU  hB E2 EWR HOW
          obtain ⟨pa9, pc9, hv9⟩ : ∃ pa9 pc9, v' = .slice pa9 (k + 1) pc9 := by
            obtain ⟨⟨f, h, _⟩, _⟩ := HO9.out
            obtain ⟨a, c, h, _⟩ := rowFull h
            exact ⟨a, c, h⟩
          have B := BW.out
          have q09 := cellB B (p := ⟨ob, 0, none⟩) hsz q0
          have q19 := cellB B (p := ⟨ob, 1, none⟩) hsz q1
          have r09 := cellB B (p := ⟨rb, 0, none⟩) (by dsimp only; omega) r0
          have r19 := cellB B (p := ⟨rb, 1, none⟩) (by dsimp only; omega) r1
          have y19 := cellB B (p := ⟨w.heap.size, 1, none⟩) (by dsimp only; omega) y1
          have fq19 := (Below.frozen (p := ⟨ob, 1, none⟩) B hsz).trans fq1
          have fr09 := (Below.frozen (p := ⟨rb, 0, none⟩) B (by dsimp only; omega)).trans fr0
          have fr19 := (Below.frozen (p := ⟨rb, 1, none⟩) B (by dsimp only; omega)).trans fr1
          have hm9 : m0 ≤ w9.heap.size := by have := B.size; omega
          have E9 : Ext w w9 := Below.trans he (B.mono (by omega))
          have zq9 := cell_lt q09
          dsimp only at zq9
          have O10 : Hid (OwnsD 100 m0 (w9.setCell ⟨ob, 1, none⟩ v') v' (dualT t).gates (k + 1)) := HO9.out.other (p := ⟨ob, 1, none⟩) hsz v'
          have KF : Hid ((w9.setCell ⟨ob, 1, none⟩ v').cell? ⟨ob, 0, none⟩ = some (.int .i64 ev) ∧ (w9.setCell ⟨ob, 1, none⟩ v').cell? ⟨ob, 1, none⟩ = some v' ∧ (w9.setCell ⟨ob, 1, none⟩ v').frozen? ⟨ob, 1, none⟩ = false) := ⟨by rw [World.cell?_setCell_other _ _ _ _ (by simp), q09], by rw [World.cell?_setCell_same _ _ _ q19], by rw [World.frozen?_setCell]; exact fq19⟩
          have K2 : Hid ((w9.setCell ⟨ob, 1, none⟩ v').cell? ⟨rb, 0, none⟩ = some (.int .i64 0) ∧ (w9.setCell ⟨ob, 1, none⟩ v').cell? ⟨rb, 1, none⟩ = some (.slice none 0 0) ∧ (w9.setCell ⟨ob, 1, none⟩ v').frozen? ⟨rb, 0, none⟩ = false ∧ (w9.setCell ⟨ob, 1, none⟩ v').frozen? ⟨rb, 1, none⟩ = false ∧ (w9.setCell ⟨ob, 1, none⟩ v').cell? ⟨w.heap.size, 1, none⟩ = some (.slice (some ⟨b, off, none⟩) N pc)) := by
            have e1 : rb ≠ ob := by omega
            have e2 : w.heap.size ≠ ob := by omega
            refine ⟨by rw [World.cell?_setCell_other _ _ _ _ (fun h => by cases h)]; exact r09, by rw [World.cell?_setCell_other _ _ _ _ (fun h => by cases h; exact e1 rfl)]; exact r19, by rw [World.frozen?_setCell]; exact fr09, by rw [World.frozen?_setCell]; exact fr19, by rw [World.cell?_setCell_other _ _ _ _ (fun h => by cases h; exact e2 rfl)]; exact y19⟩
          have E10 : Ext w (w9.setCell ⟨ob, 1, none⟩ v') := Below.setCell (p := ⟨ob, 1, none⟩) E9 (by show w.heap.size ≤ ob; omega) _
          clear HO9 B BW c1 c2 c3 g0 g1 g2 q0 q1 r0 r1 y1 fq1 fr0 fr1 r09 r19 y19 fr09 fr19 HKD
          subst hv9
          go_wp2_with (at_builtin; refine wpList_appC _ rfl _ _ 33 rfl v (.slice (some ⟨U.heap.size, 0, none⟩) 1 1) rfl rfl (.slice pa9 (k + 1) pc9) w9 HR.out ?_)
          refine ⟨⟨k + 1, by omega, by go_num, ⟨_, KF.out.1, KF.out.2.1, KF.out.2.2, O10.out⟩, K2.out, by have := E10.size; simp; omega, E10⟩, by simp [intOf]; omega⟩
        · skip
          have hnd := hn0 hp2
          have hk1 : kd = 1 - p := by have := HKD.out; omega
          have k5 : (p == 2) = false := by rw [beq_eq_false_iff_ne]; exact hp2
          have NX := X
          rw [← hk1] at NX
          rw [← hnd] at NX
          have EU := hE
          have OU := hO
          have d0 := hE.cell g0
          have zd := cell_lt d0
          dsimp only at zd
          clear hn2 hn0 hp2 hnd hk1 X hE hO
          generalize W = U at EU NX OU d0 zd ⊢
          obtain ⟨x0, x1, x2, f0, f1, f2⟩ := NX
          have zx := cell_lt x0
          dsimp only at zx
          have EWR : Ext wr U := EG.trans EU
          have u1 := EWR.cell q1
          have zu := cell_lt u1
          dsimp only at zu
          have uf := (Below.frozen (p := ⟨ob, 1, none⟩) EWR (by dsimp only; omega)).trans fq1
          have E2 : Ext U (U.alloc (.cells #[.int .i64 kd, .int .i64 nd, .slice va L vc] 100)) := extA
          have n0 : (U.alloc (.cells #[.int .i64 kd, .int .i64 nd, .slice va L vc] 100)).cell? ⟨(U).heap.size, 0, none⟩ = some (.int .i64 kd) := by rw [World.cell?_alloc_new]; rfl
          have n1 : (U.alloc (.cells #[.int .i64 kd, .int .i64 nd, .slice va L vc] 100)).cell? ⟨(U).heap.size, 1, none⟩ = some (.int .i64 nd) := by rw [World.cell?_alloc_new]; rfl
          have n2 : (U.alloc (.cells #[.int .i64 kd, .int .i64 nd, .slice va L vc] 100)).cell? ⟨(U).heap.size, 2, none⟩ = some (.slice va L vc) := by rw [World.cell?_alloc_new]; rfl
          have hV := EG.size
          have hU := (EWR.trans E2).size
          obtain ⟨v', w9, hr, hown9, hA⟩ := ((HOW.out.ext EWR).ext E2).app (S := 33) Tryz.underlying33 infoGtR rfl HDG.out (OU.ext E2) (fun b hb => ⟨fun e => by have h1 := (hB b hb).1; have h2 := HOW.out.lt e; omega, by have h1 := (hB b hb).1; omega⟩) 1 n0 n1 n2 (by omega) (by omega)
          have HR := Lib.hid hr
          have HO9 := Lib.hid hown9
          have BW := Lib.hid (Below.trans ((EWR.trans E2).mono hm) hA.below)
          clear hr hown9 hA n0 n1 n2 OU hU hV EU  hB E2 EWR HOW
          obtain ⟨pa9, pc9, hv9⟩ : ∃ pa9 pc9, v' = .slice pa9 (k + 1) pc9 := by
            obtain ⟨⟨f, h, _⟩, _⟩ := HO9.out
            obtain ⟨a, c, h, _⟩ := rowFull h
            exact ⟨a, c, h⟩
          have B := BW.out
          have q09 := cellB B (p := ⟨ob, 0, none⟩) hsz q0
          have q19 := cellB B (p := ⟨ob, 1, none⟩) hsz q1
          have r09 := cellB B (p := ⟨rb, 0, none⟩) (by dsimp only; omega) r0
          have r19 := cellB B (p := ⟨rb, 1, none⟩) (by dsimp only; omega) r1
          have y19 := cellB B (p := ⟨w.heap.size, 1, none⟩) (by dsimp only; omega) y1
          have fq19 := (Below.frozen (p := ⟨ob, 1, none⟩) B hsz).trans fq1
          have fr09 := (Below.frozen (p := ⟨rb, 0, none⟩) B (by dsimp only; omega)).trans fr0
          have fr19 := (Below.frozen (p := ⟨rb, 1, none⟩) B (by dsimp only; omega)).trans fr1
          have hm9 : m0 ≤ w9.heap.size := by have := B.size; omega
          have E9 : Ext w w9 := Below.trans he (B.mono (by omega))
          have zq9 := cell_lt q09
          dsimp only at zq9
          have O10 : Hid (OwnsD 100 m0 (w9.setCell ⟨ob, 1, none⟩ v') v' (dualT t).gates (k + 1)) := HO9.out.other (p := ⟨ob, 1, none⟩) hsz v'
          have KF : Hid ((w9.setCell ⟨ob, 1, none⟩ v').cell? ⟨ob, 0, none⟩ = some (.int .i64 ev) ∧ (w9.setCell ⟨ob, 1, none⟩ v').cell? ⟨ob, 1, none⟩ = some v' ∧ (w9.setCell ⟨ob, 1, none⟩ v').frozen? ⟨ob, 1, none⟩ = false) := ⟨by rw [World.cell?_setCell_other _ _ _ _ (by simp), q09], by rw [World.cell?_setCell_same _ _ _ q19], by rw [World.frozen?_setCell]; exact fq19⟩
          have K2 : Hid ((w9.setCell ⟨ob, 1, none⟩ v').cell? ⟨rb, 0, none⟩ = some (.int .i64 0) ∧ (w9.setCell ⟨ob, 1, none⟩ v').cell? ⟨rb, 1, none⟩ = some (.slice none 0 0) ∧ (w9.setCell ⟨ob, 1, none⟩ v').frozen? ⟨rb, 0, none⟩ = false ∧ (w9.setCell ⟨ob, 1, none⟩ v').frozen? ⟨rb, 1, none⟩ = false ∧ (w9.setCell ⟨ob, 1, none⟩ v').cell? ⟨w.heap.size, 1, none⟩ = some (.slice (some ⟨b, off, none⟩) N pc)) := by
            have e1 : rb ≠ ob := by omega
            have e2 : w.heap.size ≠ ob := by omega
            refine ⟨by rw [World.cell?_setCell_other _ _ _ _ (fun h => by cases h)]; exact r09, by rw [World.cell?_setCell_other _ _ _ _ (fun h => by cases h; exact e1 rfl)]; exact r19, by rw [World.frozen?_setCell]; exact fr09, by rw [World.frozen?_setCell]; exact fr19, by rw [World.cell?_setCell_other _ _ _ _ (fun h => by cases h; exact e2 rfl)]; exact y19⟩
          have E10 : Ext w (w9.setCell ⟨ob, 1, none⟩ v') := Below.setCell (p := ⟨ob, 1, none⟩) E9 (by show w.heap.size ≤ ob; omega) _
          clear HO9 B BW c1 c2 c3 g0 g1 g2 q0 q1 r0 r1 y1 fq1 fr0 fr1 r09 r19 y19 fr09 fr19 HKD
          subst hv9
          go_wp2_with (at_builtin; refine wpList_appC _ rfl _ _ 33 rfl v (.slice (some ⟨U.heap.size, 0, none⟩) 1 1) rfl rfl (.slice pa9 (k + 1) pc9) w9 HR.out ?_)
          refine ⟨⟨k + 1, by omega, by go_num, ⟨_, KF.out.1, KF.out.2.1, KF.out.2.2, O10.out⟩, K2.out, by have := E10.size; simp; omega, E10⟩, by simp [intOf]; omega⟩
    · have hke : k = N := by omega
      subst hke
      have hlt' : ¬ (k : Int) < (k : Int) := by omega
      obtain ⟨ra, rc, hv⟩ : ∃ ra rc, v = .slice ra k rc := by
        obtain ⟨⟨f, h, _⟩, _⟩ := hown
        obtain ⟨a, c, h, _⟩ := rowFull h
        exact ⟨a, c, h⟩
      subst hv
      have HOW := Lib.hid hown
      clear hown HV HRB HF HG
      go_wp2
      (try simp only [Exit.inBlock, Exit.then])
      have E11 : Ext w ((wr.setCell ⟨rb, 0, none⟩ (.int .i64 ev)).setCell ⟨rb, 1, none⟩ (.slice ra k rc)) := Below.setCell (p := ⟨rb, 1, none⟩) (Below.setCell (p := ⟨rb, 0, none⟩) he (by show w.heap.size ≤ rb; omega) _) (by show w.heap.size ≤ rb; omega) _
      have O11 : OwnsD 100 m0 ((wr.setCell ⟨rb, 0, none⟩ (.int .i64 ev)).setCell ⟨rb, 1, none⟩ (.slice ra k rc)) (.slice ra k rc) (dualT t).gates k := (HOW.out.other (p := ⟨rb, 0, none⟩) (by dsimp only; omega) _).other (p := ⟨rb, 1, none⟩) (by dsimp only; omega) _
      refine bodyPost_ret (v := .agg #[.int .i64 ev, .slice ra k rc]) (by rw [results_cellT rfl]; go_simp) rfl ?_
      have hkl : k = (dualT t).gates.length := by rw [dual_len]; exact HN.out
      refine ⟨ra, rc, by unfold treeV; rw [HEV.out, ← hkl]; rfl, fun W' hW => ?_, E11⟩
      have O12 : OwnsD 100 m0 W' (.slice ra k rc) (dualT t).gates (dualT t).gates.length := by
        rw [← hkl]
        exact O11.same (fun b hb => hW b (by omega))
      obtain ⟨pa', pc', hv, hT⟩ := OwnsD.tree O12
      injection hv with e1 e2 e3
      subst e1; subst e3
      exact hT
end Go.Proofs.YtlhpfhnbeagnaaaGreatDoor
namespace Go.Proofs.YtlhpfhnbeagnaaaGreatDoor
open Go.RowKit
set_option maxHeartbeats 8000000 in
set_option maxRecDepth 100000 in
theorem rDual_any {t : Tr} {pa : Option Addr} {pc : Nat} {w : World} (ht : TreeG w t pa pc) :
    Calls Tryz.prog 34 #[treeV t pa pc] w (TreeE (dualZ t) (treeE t : Nat) w) := by
  have HK := Lib.hid (fun W (hW : Ext w W) => rCheck_any (ht.ext hW))
  have HT := Lib.hid (fun (h : treeE t = 0) W (hW : Ext w W) => Turned_any (ht.ext hW) (treeE_ok h))
  have HZ0 : Hid (treeE t ≠ 0 → dualZ t = ⟨0, []⟩) := fun h => if_neg h
  have HZ1 : Hid (treeE t = 0 → dualZ t = dualT t) := fun h => if_pos h
  unfold treeV at HK HT ⊢
  unfold TreeO at HT
  generalize treeE t = er at HK HT HZ0 HZ1 ⊢
  obtain ⟨N, hN⟩ : ∃ N, N = t.gates.length := ⟨_, rfl⟩
  obtain ⟨ev, hev⟩ : ∃ ev, ev = t.ev := ⟨_, rfl⟩
  rw [← hN, ← hev] at HK HT ⊢
  clear ht hN hev
  have y0 : ((w.alloc (.cells #[.int .i64 ev, .slice pa N pc] 35)).alloc (.cells #[.int .i64 0, .slice none 0 0] 35)).cell? ⟨w.heap.size, 0, none⟩ = some (.int .i64 ev) := by go_simp
  have y1 : ((w.alloc (.cells #[.int .i64 ev, .slice pa N pc] 35)).alloc (.cells #[.int .i64 0, .slice none 0 0] 35)).cell? ⟨w.heap.size, 1, none⟩ = some (.slice pa N pc) := by go_simp
  have r0 : ((w.alloc (.cells #[.int .i64 ev, .slice pa N pc] 35)).alloc (.cells #[.int .i64 0, .slice none 0 0] 35)).cell? ⟨w.heap.size + 1, 0, none⟩ = some (.int .i64 0) := by go_simp
  have r1 : ((w.alloc (.cells #[.int .i64 ev, .slice pa N pc] 35)).alloc (.cells #[.int .i64 0, .slice none 0 0] 35)).cell? ⟨w.heap.size + 1, 1, none⟩ = some (.slice none 0 0) := by go_simp
  have fr0 : ((w.alloc (.cells #[.int .i64 ev, .slice pa N pc] 35)).alloc (.cells #[.int .i64 0, .slice none 0 0] 35)).frozen? ⟨w.heap.size + 1, 0, none⟩ = false := by go_simp
  have fr1 : ((w.alloc (.cells #[.int .i64 ev, .slice pa N pc] 35)).alloc (.cells #[.int .i64 0, .slice none 0 0] 35)).frozen? ⟨w.heap.size + 1, 1, none⟩ = false := by go_simp
  have E0 : Ext w ((w.alloc (.cells #[.int .i64 ev, .slice pa N pc] 35)).alloc (.cells #[.int .i64 0, .slice none 0 0] 35)) := extA
  go_enter Tryz.func34, Tryz.ntmps34
  go_wp2_with fail
  obtain ⟨rb, hrb⟩ : ∃ rb, rb = w.heap.size + 1 := ⟨_, rfl⟩
  rw [← hrb] at r0 r1 fr0 fr1 ⊢
  have hwr : w.heap.size < rb := by omega
  clear hrb
  generalize ((w.alloc (.cells #[.int .i64 ev, .slice pa N pc] 35)).alloc (.cells #[.int .i64 0, .slice none 0 0] 35)) = V0 at y0 y1 r0 r1 fr0 fr1 E0 ⊢
  refine (HK.out _ E0).mono ?_
  rintro e w1 ⟨rfl, hE⟩
  have E1 := E0.trans hE
  have fr0 := (Below.frozen (p := ⟨rb, 0, none⟩) hE (cell_lt r0)).trans fr0
  have fr1 := (Below.frozen (p := ⟨rb, 1, none⟩) hE (cell_lt r1)).trans fr1
  replace y0 := hE.cell y0
  replace y1 := hE.cell y1
  replace r0 := hE.cell r0
  replace r1 := hE.cell r1
  have zy := cell_lt y0
  have zr := cell_lt r0
  dsimp only at zy zr
  clear hE HK E0
  by_cases h0 : er = 0
  case neg =>
    have k5 : ((er : Int) != 0) = true := by rw [bne_iff_ne]; omega
    have HZ := Lib.hid (HZ0.out h0)
    clear HZ0 HZ1 HT h0
    go_wp2
    have E2 : Ext w ((w1.setCell ⟨rb, 0, none⟩ (.int .i64 0)).setCell ⟨rb, 1, none⟩ (.slice none 0 0)) := Below.setCell (p := ⟨rb, 1, none⟩) (Below.setCell (p := ⟨rb, 0, none⟩) E1 (by show w.heap.size ≤ rb; omega) _) (by show w.heap.size ≤ rb; omega) _
    refine bodyPost_ret (v := .tuple #[.agg #[.int .i64 0, .slice none 0 0], .int .i64 er]) (by rw [results_cell_tmp rfl]; go_simp) rfl ?_
    rw [HZ.out]
    exact ⟨none, 0, rfl, treeG_none _, E2⟩
  have HZ := Lib.hid (HZ1.out h0)
  have HT2 := Lib.hid (HT.out h0)
  subst h0
  clear HZ0 HZ1 HT
  go_wp2_with fail
  refine (HT2.out _ E1).mono ?_
  rintro e w2 ⟨b, c, rfl, hT, hE⟩
  have E2 := E1.trans hE
  have fr0 := (Below.frozen (p := ⟨rb, 0, none⟩) hE (cell_lt r0)).trans fr0
  have fr1 := (Below.frozen (p := ⟨rb, 1, none⟩) hE (cell_lt r1)).trans fr1
  replace r0 := hE.cell r0
  replace r1 := hE.cell r1
  have zr := cell_lt r0
  dsimp only at zr
  have HTG := Lib.hid (hT ((w2.setCell ⟨rb, 0, none⟩ (.int .i64 (dualT t).ev)).setCell ⟨rb, 1, none⟩ (.slice b (dualT t).gates.length c)) (fun j hj => by rw [Below.heap_setCell _ _ _ _ (by dsimp only; omega), Below.heap_setCell _ _ _ _ (by dsimp only; omega)]))
  obtain ⟨d, hd⟩ : ∃ d, d = dualT t := ⟨_, rfl⟩
  rw [← hd] at HTG HZ ⊢
  clear hE hT HT2 y0 y1 zy E1 hd
  unfold treeV
  go_wp2
  have E3 : Ext w ((w2.setCell ⟨rb, 0, none⟩ (.int .i64 d.ev)).setCell ⟨rb, 1, none⟩ (.slice b d.gates.length c)) := Below.setCell (p := ⟨rb, 1, none⟩) (Below.setCell (p := ⟨rb, 0, none⟩) E2 (by show w.heap.size ≤ rb; omega) _) (by show w.heap.size ≤ rb; omega) _
  refine bodyPost_ret (v := .tuple #[.agg #[.int .i64 d.ev, .slice b d.gates.length c], .int .i64 0]) (by rw [results_cell_tmp rfl]; go_simp) rfl ?_
  rw [HZ.out]
  exact ⟨b, c, rfl, HTG.out, E3⟩
end Go.Proofs.YtlhpfhnbeagnaaaGreatDoor
