/- Steps of the proof: QOpen, QOpenI, GGiv, QLaw, QAcc, GJoi, GTur. No conditions. -/
import Derived.ProofKit
import Derived.OpenShut
import Derived.Lib.SmallJoins
import Derived.Deep.Slices
import Derived.Test.YtdolibeceijnnaaDoorCards
import Derived.Test.YtdolibeceijnnaaDoorTie
import Derived.WalkKit
import Derived.Deep.DeepHandedRow
import Derived.Lib.LaidTab
import Derived.LaidSub
import Derived.MakeChecks
import Derived.Test.YtdolibeceijnnaaDoorZGT1
import Derived.Test.YtdolibeceijnnaaDoorZGT2
import Derived.Test.YtdolibeceijnnaaDoorZGT3
import Derived.Test.YtdolibeceijnnaaDoorZGT4
import Derived.Test.YtdolibeceijnnaaDoorZGT5
namespace Go.Proofs.YtdolibeceijnnaaDoor
open Go.RowKit Go.ChangeShapes Go.WideShapes Go.Joins Go.Deep
theorem list2 {α : Type} {l : List α} (h : l.length = 2) : ∃ a b, l = [a, b] := by
  match l, h with
  | [a, b], _ => exact ⟨a, b, rfl⟩
theorem laidOut : laidOutB Tryd.prog = true := by kernel_rfl
theorem cellsOfStk : Tryd.prog.cellsOf 67 = 2 := by kernel_rfl
theorem cellsOfStp : Tryd.prog.cellsOf 65 = 2 := by kernel_rfl
theorem cellsOfInt : Tryd.prog.cellsOf 3 = 1 := by kernel_rfl
theorem cellsOfBool : Tryd.prog.cellsOf 4 = 1 := by kernel_rfl
theorem cellsOfSlk : Tryd.prog.cellsOf 45 = 1 := by kernel_rfl
section
variable {H : Type} {enc : TypeId × Value → H} {w : World} {base : Nat} {spare : Nat → Bool} {held : Bool}
theorem open_stk {fuel : Nat} {cs : List Value} {x : DataW H × List MemPlace} (h : DataW.trod enc Tryd.prog w base spare held fuel 67 cs = some x) : ∃ y : Stk, cs = [.int .i64 y.1, .bool y.2] := by
  obtain ⟨y0, y1, n, _, hl, h0, h1⟩ := trod_struct2 Tryd.underlying67 h
  rw [cellsOfStk] at hl
  obtain ⟨a, b, rfl⟩ := list2 hl
  rw [cellsOfInt] at h0
  rw [cellsOfBool] at h1
  obtain ⟨i, e0, _, w0⟩ := DataW.trod_int Tryd.underlying3 h0
  obtain ⟨j, e1, _⟩ := DataW.trod_bool Tryd.underlying4 h1
  simp at e0 e1
  subst e0; subst e1
  exact ⟨(i, j), rfl⟩
theorem open_stks {a : Addr} {len : Nat} (h : ∀ i, i < len → ∃ cs' n x, w.cells? base (a.add (i * 2)) 2 = some cs' ∧ DataW.trod enc Tryd.prog w base spare held n 67 cs' = some x) : ∃ l : List Stk, l.length = len ∧ CellsK w (some a) l := by
  have key : ∀ i, i < len → ∃ y : Stk, w.cell? (a.add (i * 2)) = some (.int .i64 y.1) ∧ w.cell? ((a.add (i * 2)).add 1) = some (.bool y.2) := fun i hi => by
    obtain ⟨cs', n, x, h1, h2⟩ := h i hi
    obtain ⟨y, rfl⟩ := open_stk h2
    obtain ⟨_, _, hc⟩ := World.cells?_some h1
    have c0 := hc 0 (by omega)
    have c1 := hc 1 (by omega)
    refine ⟨y, ?_, c1⟩
    have e : (a.add (i * 2)).add 0 = a.add (i * 2) := by simp [Addr.add]
    rw [e] at c0
    exact c0
  obtain ⟨f, hf⟩ := choose_lt (α := Stk) key
  refine ⟨(List.range len).map f, by simp, fun i hi => ?_⟩
  have hi' : i < len := by simpa using hi
  obtain ⟨h1, h2⟩ := hf i hi'
  have hp : ((List.range len).map f).getD i stk0 = f i := by simp [List.getD, hi']
  rw [hp]
  obtain ⟨b, off, spot⟩ := a
  have hs : spot = none := by
    have h0 := World.cell?_spot (hf 0 (by omega)).1
    simpa [Addr.add] using h0
  subst hs
  rw [Addr.add_lit] at h1 h2
  rw [Addr.add_lit] at h2
  exact ⟨b, off, rfl, h1, h2⟩
theorem open_slk {fuel : Nat} {v : Value} {x : DataW H × List MemPlace} (h : DataW.trod enc Tryd.prog w base spare held fuel 45 [v] = some x) : ∃ l : List Stk, SliceK w v l := by
  rcases open_slice Tryd.underlying45 h with ⟨h1, _⟩ | ⟨a, len, cap, m, n, D, Pl, h1, hb, hl, hm, hmm, _, hx⟩
  · simp at h1
    exact ⟨[], none, 0, h1, fun i hi => by simp at hi, by simp⟩
  · simp at h1
    rw [cellsOfStk] at hx
    have hlm : len ≤ m := by rw [hmm]; split <;> omega
    obtain ⟨l, hll, hc⟩ := open_stks (enc := enc) (spare := spare) (held := held) (w := w) (base := base) (a := a) (len := len) (fun i hi => by
      obtain ⟨cs', h2, h3⟩ := hx i (by omega)
      exact ⟨cs', n, _, h2, h3⟩)
    exact ⟨l, some a, cap, by rw [h1, hll], hc, by rw [hll]; omega⟩
theorem open_stp {fuel : Nat} {cs : List Value} {x : DataW H × List MemPlace} (h : DataW.trod enc Tryd.prog w base spare held fuel 65 cs = some x) : ∃ (v : Value) (y : Stp), cs = [v, .int .i64 y.2] ∧ SliceK w v y.1 := by
  obtain ⟨y0, y1, n, _, hl, h0, h1⟩ := trod_struct2 Tryd.underlying65 h
  rw [cellsOfStp] at hl
  obtain ⟨a, b, rfl⟩ := list2 hl
  rw [cellsOfInt] at h1
  rw [cellsOfSlk] at h0
  obtain ⟨i, e1, _, w0⟩ := DataW.trod_int Tryd.underlying3 h1
  obtain ⟨l, hv⟩ := open_slk (v := a) (by simpa using h0)
  simp at e1
  subst e1
  exact ⟨a, (l, i), rfl, hv⟩
theorem open_stps {a : Addr} {len : Nat} (h : ∀ i, i < len → ∃ cs' n x, w.cells? base (a.add (i * 2)) 2 = some cs' ∧ DataW.trod enc Tryd.prog w base spare held n 65 cs' = some x) : ∃ l : List Stp, l.length = len ∧ CellsP w (some a) l ∧ (0 < len → a.spot = none) := by
  have key : ∀ i, i < len → ∃ y : Value × Stp, w.cell? (a.add (i * 2)) = some y.1 ∧ w.cell? ((a.add (i * 2)).add 1) = some (.int .i64 y.2.2) ∧ SliceK w y.1 y.2.1 := fun i hi => by
    obtain ⟨cs', n, x, h1, h2⟩ := h i hi
    obtain ⟨v, y, rfl, hv⟩ := open_stp h2
    obtain ⟨_, _, hc⟩ := World.cells?_some h1
    have c0 := hc 0 (by omega)
    have c1 := hc 1 (by omega)
    refine ⟨(v, y), ?_, c1, hv⟩
    have e : (a.add (i * 2)).add 0 = a.add (i * 2) := by simp [Addr.add]
    rw [e] at c0
    exact c0
  obtain ⟨f, hf⟩ := choose_lt (α := Value × Stp) key
  have hs : 0 < len → a.spot = none := fun h0 => by
    have h0 := World.cell?_spot (hf 0 h0).1
    simpa [Addr.add] using h0
  refine ⟨(List.range len).map fun i => (f i).2, by simp, fun i hi => ?_, hs⟩
  have hi' : i < len := by simpa using hi
  obtain ⟨h1, h2, h3⟩ := hf i hi'
  have hp : ((List.range len).map fun i => (f i).2).getD i stp0 = (f i).2 := by simp [List.getD, hi']
  rw [hp]
  obtain ⟨b, off, spot⟩ := a
  have hs := hs (by omega)
  dsimp only at hs
  subst hs
  rw [Addr.add_lit] at h1 h2
  rw [Addr.add_lit] at h2
  exact ⟨b, off, _, rfl, h1, h3, h2⟩
theorem open_slp {fuel : Nat} {v : Value} {x : DataW H × List MemPlace} (h : DataW.trod enc Tryd.prog w base spare held fuel 22 [v] = some x) :
    ∃ (l : List Stp) (a : Option Addr) (cap : Nat), v = .slice a l.length cap ∧ CellsP w a l ∧ l.length ≤ maxLen ∧ Room a l.length cap := by
  rcases open_slice Tryd.underlying22 h with ⟨h1, _⟩ | ⟨a, len, cap, m, n, D, Pl, h1, hb, hl, hm, hmm, _, hx⟩
  · simp at h1
    exact ⟨[], none, 0, h1, fun i hi => by simp at hi, by simp, by simp, by simp, fun h0 => by simp at h0⟩
  · simp at h1
    rw [cellsOfStp] at hx
    have hlm : len ≤ m := by rw [hmm]; split <;> omega
    obtain ⟨l, hll, hc, hs⟩ := open_stps (enc := enc) (spare := spare) (held := held) (w := w) (base := base) (a := a) (len := len) (fun i hi => by
      obtain ⟨cs', h2, h3⟩ := hx i (by omega)
      exact ⟨cs', n, _, h2, h3⟩)
    refine ⟨l, some a, cap, by rw [h1, hll], hc, by rw [hll]; omega, by rw [hll]; exact hl, hm, fun h0 => ?_⟩
    obtain ⟨b, off, spot⟩ := a
    have := hs (by omega)
    dsimp only at this
    subst this
    exact ⟨b, off, rfl⟩
set_option maxRecDepth 100000 in
theorem open_seq {r : Reach} {b0 : Nat} {v : Value} {d : DataW H} {p : List MemPlace} (hv : Value.okWide Tryd.prog w r b0 24 v) (h : DataW.Trod enc Tryd.prog w base spare held 24 v d p) :
    ∃ (n : Int) (l : List Stp) (a : Option Addr) (cap : Nat), v = .agg #[.int .i64 n, .slice a l.length cap] ∧ CellsP w a l ∧ l.length ≤ maxLen ∧ Room a l.length cap ∧ (Lit.int .i64 n).wf = true := by
  obtain ⟨c0, c1, y0, y1, n, rfl, _, _, h0, h1⟩ := open_agg2 Tryd.underlying24 (by kernel_rfl) (by kernel_rfl) hv h
  obtain ⟨i, e0, _, w0⟩ := DataW.trod_int Tryd.underlying3 h0
  obtain ⟨l, a, cap, e1, hc, hl, hr⟩ := open_slp h1
  simp at e0
  subst e0; subst e1
  exact ⟨i, l, a, cap, rfl, hc, hl, hr, w0⟩
end
end Go.Proofs.YtdolibeceijnnaaDoor
namespace Go.Proofs.YtdolibeceijnnaaDoor
open Go.RowKit Go.ChangeShapes Go.WideShapes Go.Joins Go.Deep
section
variable {H : Type} {enc : TypeId × Value → H} {w : World} {base : Nat} {spare : Nat → Bool} {held : Bool}
set_option maxRecDepth 100000 in
theorem open_u8 {r : Reach} {b0 : Nat} {v : Value} {d : DataW H} {p : List MemPlace} (hv : Value.okWide Tryd.prog w r b0 5 v) (h : DataW.Trod enc Tryd.prog w base spare held 5 v d p) :
    ∃ i : Int, v = .int .u8 i ∧ 0 ≤ i ∧ i ≤ 255 := by
  have key : v.cells.toList = [v] := by
    simp only [Value.okWide, Tryd.underlying5] at hv
    cases v <;> first | rfl | (simp [Cell.okWide, Cell.ok, Tryd.underlying5] at hv)
  obtain ⟨fuel, hf⟩ := h
  rw [key] at hf
  obtain ⟨i, e0, _, w0⟩ := DataW.trod_int Tryd.underlying5 hf
  simp at e0
  refine ⟨i, e0, ?_⟩
  simp [Lit.wf] at w0
  have h1 : IntKind.u8.min = 0 := by decide
  have h2 : IntKind.u8.max = 255 := by decide
  rw [h1, h2] at w0
  exact w0
end
end Go.Proofs.YtdolibeceijnnaaDoor
namespace Go.Proofs.YtdolibeceijnnaaDoor
open Go.ChangeShapes Go.WideShapes Go.ChangeAt Go.RowKit
theorem ownG : ownKnob Tryd.prog.godebug = none := by kernel_rfl
theorem gTab : Tryd.prog.globalNamed "pneumatic/group.bits" = some 0 := by kernel_rfl
theorem gTabT : (Tryd.prog.globals[0]?).map (·.type) = some 105 := by kernel_rfl
theorem cellsTab : Tryd.prog.cellsOf 105 = 6 := by kernel_rfl
theorem cellsU : Tryd.prog.cellsOf 76 = 1 := by kernel_rfl
def bitsTab : List Int := [1, 2, 4, 8, 16, 32]
theorem bits_of {W : World} (hL : laidMetH Tryd.prog Rows.topGroupsJoinRow.laid W) : GBits W := by
  have hP : laidMet Tryd.prog Rows.topGroupsJoinRow.laid W := by
    rw [← MakeChecks.laidMetH_plain _ _ _ (by kernel_rfl)]; exact hL
  have hT : Lib.TabIs Tryd.prog W "pneumatic/group.bits" .u64 bitsTab := Lib.tabIs_of_head gTab gTabT Tryd.underlying105 Tryd.underlying76 cellsU cellsTab hP
  intro i hi
  have h := Lib.TabIs.cell hT gTab i (by unfold bitsTab; simpa using hi)
  rw [h]
  have : i = 0 ∨ i = 1 ∨ i = 2 ∨ i = 3 ∨ i = 4 ∨ i = 5 := by omega
  rcases this with rfl | rfl | rfl | rfl | rfl | rfl <;> rfl
def flatD : Nat → DataW Unit → List Value
  | _ + 1, .lit (.int k z) => [.int k z]
  | n + 1, .agg ds => ds.flatMap (flatD n)
  | _, _ => []
def putC (cs : List Value) : Obj → Obj
  | .cells _ t frozen => .cells ⟨cs⟩ t frozen
  | o => o
noncomputable def laidWorld (os : Os) : World :=
  let w0 := World.holding Tryd.prog os ⟨#[], #[], []⟩
  { w0 with heap := w0.heap.modify 0 (putC (flatD 3 Rows.laid_pneumatic_group_bits)) }
theorem laid_met (os : Os) (args : Array Value) : laidMet Tryd.prog Rows.topGroupsJoinRow.laid ((laidWorld os).forCall (fun _ _ => 0) ⟨#[], args, []⟩).memory :=
  laidMet_of_run' 8 (by kernel_rfl) (by kernel_rfl)
end Go.Proofs.YtdolibeceijnnaaDoor
namespace Go.Proofs.YtdolibeceijnnaaDoor
open Go.RowKit
theorem SeqErr.at {s : Sq} {er : Int} {w : World} {e : Ending} {w' : World} (h : SeqErr s er w e w') : ∃ a cap, e = .returned (.tuple #[.agg #[.int .i64 s.1, .slice a s.2.length cap], .int .i64 er]) ∧ CellsP w' a s.2 ∧ Room a s.2.length cap ∧ Ext w w' := by
  obtain ⟨v, rfl, ⟨u, rfl, a, cap, rfl, hc, hm⟩, hE⟩ := h
  exact ⟨a, cap, rfl, hc, hm, hE⟩
structure Box (w : World) (b : Nat) (x : Int) (v : Value) : Prop where
  c0 : w.cell? ⟨b, 0, none⟩ = some (.int .i64 x)
  c1 : w.cell? ⟨b, 1, none⟩ = some v
  f0 : w.frozen? ⟨b, 0, none⟩ = false
  f1 : w.frozen? ⟨b, 1, none⟩ = false
  no : ∀ o, 2 ≤ o → w.cell? ⟨b, o, none⟩ = none
theorem Box.ext {w w' : World} {b : Nat} {x : Int} {v : Value} (h : Box w b x v) (k : Ext w w') : Box w' b x v :=
  ⟨k.cell h.c0, k.cell h.c1, (Below.frozen (p := ⟨b, 0, none⟩) k (cell_lt h.c0)).trans h.f0, (Below.frozen (p := ⟨b, 1, none⟩) k (cell_lt h.c1)).trans h.f1, fun o ho => (World.cell?_of_block (Below.block k b (cell_lt h.c0))).trans (h.no o ho)⟩
theorem Box.new (w : World) (x : Int) (a : Option Addr) (n c : Nat) : Box (w.alloc (.cells #[.int .i64 x, .slice a n c] 24)) w.heap.size x (.slice a n c) := by
  refine ⟨by go_simp, by go_simp, by go_simp, by go_simp, fun o ho => ?_⟩
  rw [World.cell?_alloc_new]
  exact Array.getElem?_eq_none (by simpa using ho)
theorem Box.set {w : World} {b : Nat} {x : Int} {v : Value} (h : Box w b x v) (y : Int) (u : Value) : Box ((w.setCell ⟨b, 0, none⟩ (.int .i64 y)).setCell ⟨b, 1, none⟩ u) b y u := by
  have e0 : (w.setCell ⟨b, 0, none⟩ (.int .i64 y)).cell? ⟨b, 0, none⟩ = some (.int .i64 y) := World.cell?_setCell_same _ _ _ h.c0
  have e1 : (w.setCell ⟨b, 0, none⟩ (.int .i64 y)).cell? ⟨b, 1, none⟩ = some v := by
    rw [World.cell?_setCell_other _ _ _ _ (fun h => by simp only [Addr.mk.injEq] at h; omega)]; exact h.c1
  refine ⟨?_, World.cell?_setCell_same _ _ _ e1, by rw [World.frozen?_setCell, World.frozen?_setCell]; exact h.f0, by rw [World.frozen?_setCell, World.frozen?_setCell]; exact h.f1, fun o ho => ?_⟩
  · rw [World.cell?_setCell_other _ _ _ _ (fun h => by simp only [Addr.mk.injEq] at h; omega)]; exact e0
  · rw [World.cell?_setCell_other _ _ _ _ (fun h => by simp only [Addr.mk.injEq] at h; omega), World.cell?_setCell_other _ _ _ _ (fun h => by simp only [Addr.mk.injEq] at h; omega)]; exact h.no o ho
theorem Box.keepK {w : World} {b : Nat} {x : Int} {sa : Option Addr} {sn sc : Nat} (h : Box w b x (.slice sa sn sc)) {a : Option Addr} {l : List Stk} (hc : CellsK w a l) {B : World} (hB : ∀ k, k < w.heap.size → k ≠ b → B.heap[k]? = w.heap[k]?) : CellsK B a l := fun i hi => by
  obtain ⟨b', off, ha, p1, p2⟩ := hc i hi
  have hne : b' ≠ b := by
    rintro rfl
    rcases Nat.lt_or_ge (off + i * 2) 2 with hlt | hge
    · rcases Nat.lt_or_ge (off + i * 2) 1 with h1 | h1
      · have e : off + i * 2 = 0 := by omega
        rw [e] at p2
        rw [h.c1] at p2
        cases p2
      · have e : off + i * 2 = 1 := by omega
        rw [e, h.c1] at p1
        cases p1
    · rw [h.no _ hge] at p1; cases p1
  have e := hB b' (cell_lt p1) hne
  exact ⟨b', off, ha, (World.cell?_of_block e).trans p1, (World.cell?_of_block e).trans p2⟩
theorem Box.keep {w : World} {b : Nat} {x : Int} {sa : Option Addr} {sn sc : Nat} (h : Box w b x (.slice sa sn sc)) {a : Option Addr} {l : List Stp} (hc : CellsP w a l) {B : World} (hB : ∀ k, k < w.heap.size → k ≠ b → B.heap[k]? = w.heap[k]?) : CellsP B a l := fun i hi => by
  obtain ⟨b', off, v, ha, p1, ⟨a2, c2, rfl, hk, hm⟩, p2⟩ := hc i hi
  have hne : b' ≠ b := by
    rintro rfl
    rcases Nat.lt_or_ge (off + i * 2) 2 with hlt | hge
    · rcases Nat.lt_or_ge (off + i * 2) 1 with h1 | h1
      · have e : off + i * 2 = 0 := by omega
        rw [e, h.c0] at p1
        cases p1
      · rw [h.no (off + i * 2 + 1) (by omega)] at p2; cases p2
    · rw [h.no _ hge] at p1; cases p1
  have e := hB b' (cell_lt p1) hne
  exact ⟨b', off, _, ha, (World.cell?_of_block e).trans p1, ⟨a2, c2, rfl, h.keepK hk hB, hm⟩, (World.cell?_of_block e).trans p2⟩
theorem set2_block (w : World) (b : Nat) (u v : Value) : ∀ k, k < w.heap.size → k ≠ b → ((w.setCell ⟨b, 0, none⟩ u).setCell ⟨b, 1, none⟩ v).heap[k]? = w.heap[k]? := fun _k _ hk =>
  (Below.heap_setCell _ _ _ _ (fun e => hk e)).trans (Below.heap_setCell _ _ _ _ (fun e => hk e))
theorem Box.other {w : World} {b c : Nat} {x : Int} {v : Value} (h : Box w c x v) (hne : c ≠ b) (u t : Value) : Box ((w.setCell ⟨b, 0, none⟩ u).setCell ⟨b, 1, none⟩ t) c x v := by
  have e := set2_block w b u t c (cell_lt h.c0) hne
  exact ⟨(World.cell?_of_block e).trans h.c0, (World.cell?_of_block e).trans h.c1, (World.frozen?_of_block e).trans h.f0, (World.frozen?_of_block e).trans h.f1, fun o ho => (World.cell?_of_block e).trans (h.no o ho)⟩
end Go.Proofs.YtdolibeceijnnaaDoor
namespace Go.Proofs.YtdolibeceijnnaaDoor
open Go.RowKit
theorem CellsK.take {w : World} {a : Option Addr} {l : List Stk} (h : CellsK w a l) (k : Nat) : CellsK w a (l.take k) := fun i hi => by
  rw [List.length_take] at hi
  have e : (l.take k).getD i stk0 = l.getD i stk0 := by
    rw [List.getD_eq_getElem?_getD, List.getD_eq_getElem?_getD, List.getElem?_take_of_lt (by omega)]
  rw [e]
  exact h i (by omega)
theorem CellsK.drop {w : World} {b off : Nat} {l : List Stk} (h : CellsK w (some ⟨b, off, none⟩) l) (k : Nat) : CellsK w (some ⟨b, off + k * 2, none⟩) (l.drop k) := fun i hi => by
  rw [List.length_drop] at hi
  obtain ⟨b', o', e, p1, p2⟩ := h (k + i) (by omega)
  cases e
  have e : (l.drop k).getD i stk0 = l.getD (k + i) stk0 := by
    rw [List.getD_eq_getElem?_getD, List.getD_eq_getElem?_getD, List.getElem?_drop]
  rw [e]
  exact ⟨b, off + k * 2, rfl, by rw [show off + k * 2 + i * 2 = off + (k + i) * 2 from by omega]; exact p1, by rw [show off + k * 2 + i * 2 + 1 = off + (k + i) * 2 + 1 from by omega]; exact p2⟩
end Go.Proofs.YtdolibeceijnnaaDoor
namespace Go.Proofs.YtdolibeceijnnaaDoor
open Go.RowKit
theorem grpN_le {l : List Stp} (h : 0 < l.length) : grpN l ≤ l.length := long_len (okF_her _) h
theorem FewestN_any (n : Int) (l : List Stp) (a : Option Addr) (cap : Nat) (w : World) (hk : ckSeq (n, l) = 0) (hG : GBits w) (hc : CellsP w a l) :
    Calls Tryd.prog 12 #[.agg #[.int .i64 n, .slice a l.length cap]] w fun e w' => ∃ ra rc, e = .returned (.tuple #[.slice ra (grpN l) rc, .int .i64 0]) ∧ Ext w w' := by
  refine (Fewest_any n l a cap w hk hG hc).mono ?_
  rintro e w' ⟨ra, rc, rfl, _, _, hE⟩
  rw [intsN_len]
  exact ⟨ra, rc, rfl, hE⟩
theorem RingN_any (n : Int) (l : List Stp) (a : Option Addr) (cap : Nat) (w : World) (hk : ckSeq (n, l) = 0) (hG : GBits w) (hc : CellsP w a l) :
    Calls Tryd.prog 13 #[.agg #[.int .i64 n, .slice a l.length cap]] w fun e w' => ∃ ra rc, e = .returned (.tuple #[.slice ra (rngN l) rc, .int .i64 0]) ∧ Ext w w' := by
  refine (Ring_any n l a cap w hk hG hc).mono ?_
  rintro e w' ⟨ra, rc, rfl, _, _, hE⟩
  rw [intsN_len]
  exact ⟨ra, rc, rfl, hE⟩
end Go.Proofs.YtdolibeceijnnaaDoor
namespace Go.Proofs.YtdolibeceijnnaaDoor
open Go.RowKit
theorem turns_plain {n : Int} {l : List Stp} (h : ckSeq (n, l) = 0) {xn : Nat} (hx : xn < l.length) : ckSeq (n, (backwards (n, l)).2) = 0 ∧ grpN (backwards (n, l)).2 = grpN l ∧ rngN (backwards (n, l)).2 = rngN l ∧ rngN (turned (n, l) xn).2 = rngN l ∧ grpN (turned (n, l) xn).2 ≤ grpN l + 1 ∧ grpN l ≤ grpN (turned (n, l) xn).2 + 1 := by
  have hr := ckSeq_right h
  obtain ⟨h1, h2⟩ := turned_line n hx
  exact ⟨(back_right hr).ck, back_line n hr.len.1, back_ring n hr.len.1, turned_ring n hx, h1, h2⟩
def ThreeAt (w : World) (g : Nat) (n : Int) (S : List (List Stp)) : Prop := ∀ k, k < 3 → ∃ ak ck, w.cell? ⟨g, k * 2, none⟩ = some (.int .i64 n) ∧ w.cell? ⟨g, k * 2 + 1, none⟩ = some (.slice ak (S.getD k []).length ck) ∧ CellsP w ak (S.getD k [])
theorem ThreeAt.ext {A B : World} {g : Nat} {n : Int} {S : List (List Stp)} (h : ThreeAt A g n S) (e : Ext A B) : ThreeAt B g n S := fun k hk => by
  obtain ⟨ak, ck, h1, h2, h3⟩ := h k hk
  exact ⟨ak, ck, e.cell h1, e.cell h2, h3.ext e⟩
theorem three_new (w : World) (n : Int) (l B T : List Stp) (a b t : Option Addr) (ca cb ct : Nat) (h1 : CellsP w a l) (h2 : CellsP w b B) (h3 : CellsP w t T) (ty : TypeId) :
    ThreeAt (w.alloc (.cells #[.int .i64 n, .slice a l.length ca, .int .i64 n, .slice b B.length cb, .int .i64 n, .slice t T.length ct] ty)) w.heap.size n [l, B, T] := by
  have E : Ext w (w.alloc (.cells #[.int .i64 n, .slice a l.length ca, .int .i64 n, .slice b B.length cb, .int .i64 n, .slice t T.length ct] ty)) := extA
  intro k hk
  have : k = 0 ∨ k = 1 ∨ k = 2 := by omega
  rcases this with rfl | rfl | rfl
  · exact ⟨a, ca, by rw [World.cell?_alloc_new]; rfl, by rw [World.cell?_alloc_new]; rfl, h1.ext E⟩
  · exact ⟨b, cb, by rw [World.cell?_alloc_new]; rfl, by rw [World.cell?_alloc_new]; rfl, h2.ext E⟩
  · exact ⟨t, ct, by rw [World.cell?_alloc_new]; rfl, by rw [World.cell?_alloc_new]; rfl, h3.ext E⟩
theorem take_three {α : Type} (f : List Stp → α) (S : List (List Stp)) (k : Nat) (h : k < S.length) : (S.take (k + 1)).map f = (S.take k).map f ++ [f (S.getD k [])] := by
  rw [List.take_add_one, List.map_append]
  simp [List.getD, h]
set_option maxHeartbeats 16000000 in
set_option maxRecDepth 100000 in
theorem TopGroupsTurns_any (n : Int) (l : List Stp) (a : Option Addr) (ca : Nat) (wh : Int) (w : World) (hG : GBits w) (hc : CellsP w a l) (hr : Room a l.length ca) (hwh : 0 ≤ wh ∧ wh ≤ 255) :
    Calls Tryd.prog 3 #[.agg #[.int .i64 n, .slice a l.length ca], .int .u8 wh] w fun e w' => e = .returned (.bool true) ∧ Ext w w' := by
  have HG := Lib.hid hG
  have HC := Lib.hid hc
  have HR := Lib.hid hr
  clear hG hc hr
  go_enter Tryd.func3, Tryd.ntmps3
  go_wp2_with fail
  have E0 : Ext w (w.alloc (.cells #[.int .i64 n, .slice a l.length ca] 24)) := extA
  have a0 : ((w.alloc (.cells #[.int .i64 n, .slice a l.length ca] 24))).cell? ⟨w.heap.size, 0, none⟩ = some (.int .i64 n) := by go_simp
  have a1 : ((w.alloc (.cells #[.int .i64 n, .slice a l.length ca] 24))).cell? ⟨w.heap.size, 1, none⟩ = some (.slice a l.length ca) := by go_simp
  generalize (w.alloc (.cells #[.int .i64 n, .slice a l.length ca] 24)) = W at E0 a0 a1 ⊢
  refine (caseSmall_any n l a ca 10 _ (HC.out.ext E0) HR.out).mono ?_
  rintro e w1 ⟨rfl, hE⟩
  have F1 := E0.trans hE
  replace a0 := (hE).cell a0
  replace a1 := (hE).cell a1
  clear hE E0
  have HRA := Lib.hid (fun h => smallB_true (n := n) (l := l) (k := 10) h)
  generalize smallB n l 10 = fa at HRA ⊢
  obtain ⟨bs, hbs⟩ : ∃ bs, bs = w.heap.size := ⟨_, rfl⟩
  rw [← hbs] at a0 a1 ⊢
  clear hbs
  cases fa
  · go_wp2_with fail
    refine (caseGroups_any _ (HG.out.ext F1)).mono ?_
    rintro e w2 ⟨rfl, hE⟩
    go_wp2
    go_ret
    exact ⟨rfl, F1.trans hE⟩
  obtain ⟨hla, hka⟩ := HRA.out (by first | trivial | rfl)
  have hrr := ckSeq_right hka
  have hl0 := hrr.len.1
  obtain ⟨wn, rfl⟩ := Int.eq_ofNat_of_zero_le hwh.1
  have HPZ := Lib.hid (fun W h => Pauses_any n l a ca W HR.out h)
  have HBK := Lib.hid (fun W h => Backwards_any n l a ca W HR.out h)
  rw [hka, if_pos rfl] at HPZ HBK
  obtain ⟨hp0, hp1⟩ := pauses_first hrr
  have hple := pauses_le (n, l)
  have HPIN := Lib.hid (fun k (h : k < (pauses (n, l)).length) => pauses_in (s := (n, l)) h)
  have HPR := Lib.hid (fun k (h : k < (pauses (n, l)).length) (xn : Nat) (hx : (pauses (n, l)).getD k 0 = (xn : Int)) => rests_pause hrr h hx)
  dsimp only at hple HPIN
  have HKA := Lib.hid hka
  generalize pauses (n, l) = P at HPZ hp0 hp1 hple HPIN HPR
  clear hka hp1 HRA hrr
  go_wp2_with fail
  refine (HPZ.out _ (HC.out.ext F1)).mono ?_
  rintro e w2 ⟨pa, pc, rfl, hp, hpl, hE⟩
  have X := Lib.hid hp
  have F2 := F1.trans hE
  replace a0 := (hE).cell a0
  replace a1 := (hE).cell a1
  clear hp hE F1 HPZ
  have hpz : ((P.length : Int) == 0) = false := beq_eq_false_iff_ne.2 (by omega)
  have hpz2 : ¬ (P = []) := fun h => by rw [h] at hp0; simp at hp0
  go_wp2_with fail
  refine (HBK.out _ (HC.out.ext F2)).mono ?_
  rintro e w3 h
  obtain ⟨xa, xc, rfl, hf, hfl, hE⟩ := h.at
  rw [show (backwards (n, l)).1 = n from rfl]
  obtain ⟨B, hB⟩ : ∃ B, B = (backwards (n, l)).2 := ⟨_, rfl⟩
  rw [← hB] at hf hfl ⊢
  have XB := Lib.hid hf
  have XR := Lib.hid hfl
  have F3 := F2.trans hE
  replace X := Lib.hid (X.out.ext hE)
  replace a0 := (hE).cell a0
  replace a1 := (hE).cell a1
  have z4 := cell_lt a0
  dsimp only at z4
  clear hf hfl hE F2 h HBK
  obtain ⟨kk, hkk⟩ : ∃ kk, kk = wn % P.length := ⟨_, rfl⟩
  have hmod : (wn : Int).tmod (P.length : Int) = (kk : Int) := by
    rw [Int.tmod_eq_emod_of_nonneg (by omega), hkk]; rfl
  have hkl : kk < P.length := by rw [hkk]; exact Nat.mod_lt _ hp0
  have u1 : IntKind.i64.wrap (wn : Int) = (wn : Int) := IntWalk.i64_in _ (by omega)
  have u2 : IntKind.i64.wrap (kk : Int) = (kk : Int) := IntWalk.i64_in _ (by omega)
  have hin := (HPIN.out kk hkl).1
  obtain ⟨xn, hxn⟩ := Int.eq_ofNat_of_zero_le hin
  obtain ⟨g1, g2, g3, _, _, g6⟩ := HPR.out kk hkl xn hxn
  obtain ⟨q1, q2, q3, q4, q5, q6⟩ := turns_plain HKA.out g1
  obtain ⟨T, hT⟩ : ∃ T, T = (turned (n, l) xn).2 := ⟨_, rfl⟩
  have ht : turned (n, l) xn = (n, T) := by rw [hT]; rfl
  rw [← hB] at q1 q2 q3
  rw [ht] at g3
  rw [← hT] at q4 q5 q6
  have HF1 := Lib.hid (fun W h => From_any n l (xn : Int) a ca W HR.out h HR.out)
  rw [g2, if_pos rfl, Int.toNat_natCast, ht] at HF1
  have hgz := grpN_le hl0
  have HOK3 : Hid (∀ k, k < 3 → ckSeq (n, [l, B, T].getD k []) = 0) := fun k hk => by
    have : k = 0 ∨ k = 1 ∨ k = 2 := by omega
    rcases this with rfl | rfl | rfl
    · exact HKA.out
    · exact q1
    · exact g3
  have HQ := Lib.hid (And.intro q2 (And.intro q3 q4))
  have HQ5 := Lib.hid (And.intro q5 q6)
  clear hin g1 g2 g3 g6 q1 q2 q3 q4 q5 q6 hT ht hB hkk HPR HPIN
  go_wp2_with fail
  have E5 : Ext w3 (w3.alloc (.cells #[.int .i64 n, .slice xa B.length xc] 24)) := extA
  have BX := Lib.hid (Box.new w3 n xa B.length xc)
  replace XB := Lib.hid (XB.out.ext E5)
  replace X := Lib.hid (X.out.ext E5)
  have F4 := F3.trans E5
  replace a0 := (E5).cell a0
  replace a1 := (E5).cell a1
  obtain ⟨b1, hb1⟩ : ∃ b, b = w3.heap.size := ⟨_, rfl⟩
  rw [← hb1] at BX z4 ⊢
  clear hb1 E5 F3
  generalize (w3.alloc (.cells #[.int .i64 n, .slice xa B.length xc] 24)) = W4 at BX XB X F4 a0 a1 ⊢
  obtain ⟨pb, po, rfl, x1⟩ := X.out kk hkl
  rw [hxn] at x1
  clear hxn
  go_cut [8, 9] (fun x y wx => ∃ b2 ya yc, x = .pointer (some ⟨b2, 0, none⟩) ∧ y = .int .i64 0 ∧ Hid (wx.cell? ⟨b2, 0, none⟩ = some (.int .i64 n) ∧ wx.cell? ⟨b2, 1, none⟩ = some (.slice ya T.length yc) ∧ CellsP wx ya T ∧ Room ya T.length yc) ∧ Ext W4 wx)
  case first =>
    refine wp_region_heldE 14 (fun w' => w'.cell? ⟨bs, 0, none⟩ = some (.int .i64 n) ∧ w'.cell? ⟨bs, 1, none⟩ = some (.slice a l.length ca) ∧ w'.cell? ⟨pb, po + kk, none⟩ = some (.int .i64 (xn : Int))) (by kernel_rfl) ?_
    have ED : Ext W4 W4.drew := extA
    have hS : W4.drew.cell? ⟨bs, 0, none⟩ = some (.int .i64 n) ∧ W4.drew.cell? ⟨bs, 1, none⟩ = some (.slice a l.length ca) ∧ W4.drew.cell? ⟨pb, po + kk, none⟩ = some (.int .i64 (xn : Int)) := ⟨ED.cell a0, ED.cell a1, ED.cell x1⟩
    clear a0 a1 x1
    generalize W4.drew = W2 at ED hS ⊢
    ((refine eTk 0 ?_); (refine eTk 1 ?_); (refine eTk 2 ?_); (refine eTk 3 ?_); (refine eTk 4 ?_); (refine eTk 5 ?_); (refine eTk 6 ?_); (refine eTk 7 ?_); (refine eTk 8 ?_))
    refine wpAnyE_two (i := 9) (j := 13) (o := ?_) (p := ?_) ?_ ?_ (by kernel_rfl) (fun K hK => ?_) (fun K hK => ?_)
    rotate_left 2
    · simp only [List.getElem?_toArray, List.getElem?_cons_succ, List.getElem?_cons_zero]; exact rfl
    · simp only [List.getElem?_toArray, List.getElem?_cons_succ, List.getElem?_cons_zero]; exact rfl
    · go_simp
      refine (HF1.out _ (HC.out.ext (F4.trans ED))).mono ?_
      rintro e w8 h
      obtain ⟨ya, yc, rfl, hf, hfr, hE⟩ := h.at
      dsimp only at hf hfr ⊢
      have Y2 := Lib.hid hf
      have YR := Lib.hid hfr
      clear hf hfr h
      go_wp2_with fail
      refine hK.out _ _ ⟨hE.cell hS.1, hE.cell hS.2.1, hE.cell hS.2.2⟩ (fun hHeld => ?_)
      clear hK K
      (try simp only [Act.put, List.setIfInBounds_toArray, List.set_cons_zero, List.set_cons_succ])
      have hS8 : w8.cell? ⟨bs, 0, none⟩ = some (.int .i64 n) ∧ w8.cell? ⟨bs, 1, none⟩ = some (.slice a l.length ca) ∧ w8.cell? ⟨pb, po + kk, none⟩ = some (.int .i64 (xn : Int)) := hHeld
      ((refine ePu 10 ?_); (refine ePu 11 ?_); (refine ePu 12 ?_))
      have E9 : Ext w8 (w8.alloc (.cells #[.int .i64 0, .slice none 0 0] 24)) := extA
      (refine wpAnyE_one (i := 13) (o := ?_) ?_ (by kernel_rfl) (fun K hK => ?_); rotate_left; (focus ((simp only [List.getElem?_toArray, List.getElem?_cons_succ, List.getElem?_cons_zero]; exact rfl))); go_simp; refine hK.out _ _ ?_ (fun hHeld => ?_); rotate_left; clear hK K; (try simp only [Act.put, List.setIfInBounds_toArray, List.set_cons_zero, List.set_cons_succ]))
      rotate_left
      · exact ⟨E9.cell hS8.1, E9.cell hS8.2.1, E9.cell hS8.2.2⟩
      (refine wpAnyE_free (i := 14) (o := ?_) ?_ (by kernel_rfl) (by kernel_rfl) (fun K hK => ?_); rotate_left; (focus ((simp only [List.getElem?_toArray, List.getElem?_cons_succ, List.getElem?_cons_zero]; exact rfl))); go_simp; refine hK.out _ _ ?_; clear hK K; (try simp only [Act.put, List.setIfInBounds_toArray, List.set_cons_zero, List.set_cons_succ]))
      (refine ePu 15 ?_)
      refine wpAnyE_done (by kernel_rfl) ?_ _
      go_wp2_with fail
      go_meet
      have EA : Ext w8 (w8.alloc (.cells #[.int .i64 n, .slice ya T.length yc] 24)) := extA
      exact ⟨w8.heap.size, ya, yc, rfl, rfl, ⟨by go_simp, by go_simp, Y2.out.ext EA, YR.out⟩, (ED.trans hE).trans EA⟩
    · go_simp
      have E9 : Ext W2 (W2.alloc (.cells #[.int .i64 0, .slice none 0 0] 24)) := extA
      have BN := Lib.hid (Box.new W2 0 none 0 0)
      have hb2 : W2.heap.size < (W2.alloc (.cells #[.int .i64 0, .slice none 0 0] 24)).heap.size := by simp
      refine hK.out _ _ ⟨E9.cell hS.1, E9.cell hS.2.1, E9.cell hS.2.2⟩ (fun hHeld => ?_)
      clear hK K
      (try simp only [Act.put, List.setIfInBounds_toArray, List.set_cons_zero, List.set_cons_succ])
      have hS8 : (W2.alloc (.cells #[.int .i64 0, .slice none 0 0] 24)).cell? ⟨bs, 0, none⟩ = some (.int .i64 n) ∧ (W2.alloc (.cells #[.int .i64 0, .slice none 0 0] 24)).cell? ⟨bs, 1, none⟩ = some (.slice a l.length ca) ∧ (W2.alloc (.cells #[.int .i64 0, .slice none 0 0] 24)).cell? ⟨pb, po + kk, none⟩ = some (.int .i64 (xn : Int)) := hHeld
      obtain ⟨nb, hnb⟩ : ∃ nb, nb = W2.heap.size := ⟨_, rfl⟩
      rw [← hnb] at BN hb2 ⊢
      have HNB := Lib.hid hnb
      clear hnb hS
      generalize (W2.alloc (.cells #[.int .i64 0, .slice none 0 0] 24)) = W3 at E9 BN hS8 hb2 ⊢
      (refine wpAnyE_one (i := 9) (o := ?_) ?_ (by kernel_rfl) (fun K hK => ?_); rotate_left; (focus ((simp only [List.getElem?_toArray, List.getElem?_cons_succ, List.getElem?_cons_zero]; exact rfl))); go_simp; refine (HF1.out _ (HC.out.ext ((F4.trans ED).trans E9))).mono ?_; rintro e w8 h; obtain ⟨ya, yc, rfl, hf, hfr, hE⟩ := h.at; dsimp only at hf hfr ⊢; have Y2 := Lib.hid hf; have YR := Lib.hid hfr; clear hf hfr h; go_wp2_with fail; refine hK.out _ _ ?_ (fun hHeld => ?_); rotate_left; clear hK K; (try simp only [Act.put, List.setIfInBounds_toArray, List.set_cons_zero, List.set_cons_succ]))
      rotate_left
      · exact ⟨hE.cell hS8.1, hE.cell hS8.2.1, hE.cell hS8.2.2⟩
      have BN := Lib.hid (BN.out.ext hE)
      have q0 := BN.out.c0
      have q1 := BN.out.c1
      have q2 := BN.out.f0
      have q3 := BN.out.f1
      ((refine ePu 10 ?_); (refine ePu 11 ?_); (refine ePu 12 ?_))
      (refine wpAnyE_free (i := 14) (o := ?_) ?_ (by kernel_rfl) (by kernel_rfl) (fun K hK => ?_); rotate_left; (focus ((simp only [List.getElem?_toArray, List.getElem?_cons_succ, List.getElem?_cons_zero]; exact rfl))); go_simp; refine hK.out _ _ ?_; clear hK K; (try simp only [Act.put, List.setIfInBounds_toArray, List.set_cons_zero, List.set_cons_succ]))
      (refine ePu 15 ?_)
      refine wpAnyE_done (by kernel_rfl) ?_ _
      go_wp2_with fail
      go_meet
      have EB : Ext W2 ((w8.setCell ⟨nb, 0, none⟩ (.int .i64 n)).setCell ⟨nb, 1, none⟩ (.slice ya T.length yc)) := ((E9.trans hE).set (by have := HNB.out; omega) _).set (by have := HNB.out; omega) _
      have BM := BN.out.set n (.slice ya T.length yc)
      exact ⟨nb, ya, yc, rfl, rfl, ⟨BM.c0, BM.c1, BN.out.keep Y2.out (set2_block _ nb _ _), YR.out⟩, ED.trans EB⟩
  case rest =>
    obtain ⟨b2, ya, yc, rfl, rfl, HB2, hE⟩ := hcut
    have F5 := F4.trans hE
    replace BX := Lib.hid (BX.out.ext hE)
    replace XB := Lib.hid (XB.out.ext hE)
    replace a0 := (hE).cell a0
    replace a1 := (hE).cell a1
    have r0 := HB2.out.1
    have r1 := HB2.out.2.1
    have s0 := BX.out.c0
    have s1 := BX.out.c1
    have v0 : IntKind.i64.wrap 0 = 0 := rfl
    have z0 := cell_lt a0
    have z1 := cell_lt r0
    have z2 := cell_lt s0
    dsimp only at z0 z1 z2
    clear hE F4 HF1 x1 u1 u2 hmod hpz hpz2 X z4
    go_wp2_with fail
    have E6 : Ext wc (wc.alloc (.cells #[.int .i64 n, .slice a l.length ca, .int .i64 n, .slice xa B.length xc, .int .i64 n, .slice ya T.length yc] 24)) := extA
    have TH := Lib.hid (three_new wc n l B T a xa ya ca xc yc (HC.out.ext F5) XB.out HB2.out.2.2.1 24)
    have F6 := F5.trans E6
    obtain ⟨tb, htb⟩ : ∃ tb, tb = wc.heap.size := ⟨_, rfl⟩
    rw [← htb] at TH ⊢
    clear htb E6 F5 HB2 XB BX s0 s1 r0 r1 a0 a1 z0 z1 z2
    generalize (wc.alloc (.cells #[.int .i64 n, .slice a l.length ca, .int .i64 n, .slice xa B.length xc, .int .i64 n, .slice ya T.length yc] 24)) = W6 at TH F6 ⊢
    obtain ⟨S, hS⟩ : ∃ S, S = [l, B, T] := ⟨_, rfl⟩
    rw [← hS] at TH HOK3
    have hS3 : S.length = 3 := by rw [hS]; rfl
    have HSS := Lib.hid hS
    clear hS
    obtain ⟨i0, hi, hi0, hi1, hi2⟩ := info_parts infoInt
    go_loopw [61, 10, 11] (fun x v1 v2 wr => ∃ k : Nat, k ≤ 3 ∧ x = .int .i64 k ∧ (∃ y1 y2, v1 = y1 ∧ v2 = y2 ∧ Hid (OwnsI wr y1 (intsN ((S.take k).map grpN)) ∧ OwnsI wr y2 (intsN ((S.take k).map rngN)) ∧ (∀ g, y1.ownBlock = some g → W6.heap.size ≤ g) ∧ (∀ g, y2.ownBlock = some g → W6.heap.size ≤ g) ∧ ∀ g, y1.ownBlock = some g → y2.ownBlock ≠ some g)) ∧ Ext W6 wr) (fun x _ _ _ => 3 - (intOf x).toNat)
    case atStart => exact ⟨0, Nat.zero_le _, rfl, ⟨_, _, rfl, rfl, OwnsI.nil _, OwnsI.nil _, fun g hg => (by cases hg), fun g hg => (by cases hg), fun g hg => (by cases hg)⟩, Ext.refl _⟩
    case round =>
      obtain ⟨k, hk, rfl, ⟨y1, y2, hv1, hv2, hO⟩, he⟩ := hrel
      obtain rfl := hv1.symm
      obtain rfl := hv2.symm
      have G6 := F6.trans he
      by_cases hlt : k < 3
      · obtain ⟨ak, ck, t0, t1, hct⟩ := TH.out.ext he k hlt
        have hok := HOK3.out k hlt
        have hg1 := take_three grpN S k (by omega)
        have hg2 := take_three rngN S k (by omega)
        have HFF := Lib.hid (fun W hg h => FewestN_any n (S.getD k []) ak ck W hok hg h)
        have HFR := Lib.hid (fun W hg h => RingN_any n (S.getD k []) ak ck W hok hg h)
        have HCT := Lib.hid hct
        have HG12 := Lib.hid (And.intro hg1 hg2)
        obtain ⟨M1, hM1⟩ : ∃ M, M = (S.take k).map grpN := ⟨_, rfl⟩
        obtain ⟨M2, hM2⟩ : ∃ M, M = (S.take k).map rngN := ⟨_, rfl⟩
        have hlk : M1.length ≤ 3 := by rw [hM1, List.length_map, List.length_take]; omega
        have hlk2 : M2.length ≤ 3 := by rw [hM2, List.length_map, List.length_take]; omega
        rw [← hM1, ← hM2] at hO HG12
        clear hct hok hg1 hg2 hM1 hM2
        generalize grpN (S.getD k []) = X at HFF HG12
        generalize rngN (S.getD k []) = Y at HFR HG12
        generalize S.getD k [] = q at t1 HFF HFR HCT
        have z0 := cell_lt t0
        dsimp only at z0
        go_wp2_with fail
        have E7 : Ext wr (wr.alloc (.cells #[.int .i64 n, .slice ak q.length ck] 24)) := extA
        have d0 : ((wr.alloc (.cells #[.int .i64 n, .slice ak q.length ck] 24))).cell? ⟨wr.heap.size, 0, none⟩ = some (.int .i64 n) := by go_simp
        have d1 : ((wr.alloc (.cells #[.int .i64 n, .slice ak q.length ck] 24))).cell? ⟨wr.heap.size, 1, none⟩ = some (.slice ak q.length ck) := by go_simp
        refine (HFF.out _ (HG.out.ext (G6.trans E7)) (HCT.out.ext E7)).mono ?_
        rintro e w7 ⟨ra, rc, rfl, hE⟩
        replace d0 := (hE).cell d0
        replace d1 := (hE).cell d1
        have E8 := E7.trans hE
        clear hE E7 HFF
        go_wp2_with fail
        refine (HFR.out _ (HG.out.ext (G6.trans E8)) (HCT.out.ext E8)).mono ?_
        rintro e w8 ⟨rb, rd, rfl, hE⟩
        have E9 := E8.trans hE
        have O1 := Lib.hid (hO.out.1.ext E9)
        have O2 := Lib.hid (hO.out.2.1.ext E9)
        have OB := Lib.hid hO.out.2.2
        have G8 := he.trans E9
        have hsz8 := G8.size
        clear hE E8 E9 HFR hO d0 d1 t0 t1 z0
        have v0 : IntKind.i64.wrap 0 = 0 := rfl
        go_wp2_with (at_builtin; refine wpList_append1 _ rfl _ _ 27 rfl 3 i0 (.int .i64 0) 1 8 Tryd.underlying27 hi hi0 hi1 hi2 rfl (by decide) y1 (intsN M1).length ((intsN M1).map (Value.int .i64)) rfl ?ho ⟨w8.heap.size, 0, none⟩ 1 1 (by decide) [.int .i64 (X : Int)] rfl rfl ?hn ?c1 ?c2 ?c3 ?c4)
        case ho => exact O1.out.ext ((Ext.refl _).alloc _)
        case hn => exact cells_one _ _ _
        case c1 => intro u hu; simp at hu; subst hu; rfl
        case c2 => rw [intsN_len]; unfold maxLen; omega
        case c3 => rw [intsN_len]; omega
        case c4 =>
          intro v' w9 hown9 hend9
          have P1 : Hid (OwnsI w9 v' (intsN ((S.take (k + 1)).map grpN))) := by
            show OwnsI _ _ _
            have h9 := ownsI_succ hown9
            rw [HG12.out.1]
            unfold intsN at h9 ⊢
            rw [List.map_append]
            exact h9
          have B9 : Ext W6 w9 := (G8.trans ((Ext.refl _).alloc _)).trans' (hend9.below (n := W6.heap.size) (by simp; omega) OB.out.1) (Nat.le_refl _)
          have hA9 := hend9.chg
          have PB : Hid (∀ b, v'.ownBlock = some b → W6.heap.size ≤ b) := hend9.ge (n := W6.heap.size) (by simp; omega) OB.out.1
          have P2 : Hid (OwnsI w9 y2 (intsN M2)) := by
            refine rowSame (O2.out.ext ((Ext.refl _).alloc _)) fun g hg => hA9.1 g (rowLt (O2.out.ext ((Ext.refl _).alloc _)) hg) (fun e => OB.out.2.2 g e hg)
          have PD : Hid (∀ g, v'.ownBlock = some g → y2.ownBlock ≠ some g) := by
            intro g hg e
            rcases hA9.2.2 g hg with h | h
            · exact OB.out.2.2 g h e
            · have h1 := rowLt O2.out e
              have h2 : w8.heap.size < (w8.alloc (.cells #[.int .i64 (X : Int)] 3)).heap.size := by simp
              omega
          have hsz9 := B9.size
          clear hown9 hend9 hA9 O1
          go_wp2_with (at_builtin; refine wpList_append1 _ rfl _ _ 27 rfl 3 i0 (.int .i64 0) 1 8 Tryd.underlying27 hi hi0 hi1 hi2 rfl (by decide) y2 (intsN M2).length ((intsN M2).map (Value.int .i64)) rfl ?ho2 ⟨w9.heap.size, 0, none⟩ 1 1 (by decide) [.int .i64 (Y : Int)] rfl rfl ?hn2 ?e1 ?e2 ?e3 ?e4)
          case ho2 => exact P2.out.ext ((Ext.refl _).alloc _)
          case hn2 => exact cells_one _ _ _
          case e1 => intro u hu; simp at hu; subst hu; rfl
          case e2 => rw [intsN_len]; unfold maxLen; omega
          case e3 => rw [intsN_len]; omega
          case e4 =>
            intro v2 w11 hown11 hend11
            have Q2 : Hid (OwnsI w11 v2 (intsN ((S.take (k + 1)).map rngN))) := by
              show OwnsI _ _ _
              have h9 := ownsI_succ hown11
              rw [HG12.out.2]
              unfold intsN at h9 ⊢
              rw [List.map_append]
              exact h9
            have B11 : Ext W6 w11 := (B9.trans ((Ext.refl _).alloc _)).trans' (hend11.below (n := W6.heap.size) (by simp; omega) OB.out.2.1) (Nat.le_refl _)
            have hA11 := hend11.chg
            have QB : Hid (∀ b, v2.ownBlock = some b → W6.heap.size ≤ b) := hend11.ge (n := W6.heap.size) (by simp; omega) OB.out.2.1
            have Q1 : Hid (OwnsI w11 v' (intsN ((S.take (k + 1)).map grpN))) := by
              refine rowSame (P1.out.ext ((Ext.refl _).alloc _)) fun g hg => hA11.1 g (rowLt (P1.out.ext ((Ext.refl _).alloc _)) hg) (fun e => PD.out g hg e)
            have QD : Hid (∀ g, v'.ownBlock = some g → v2.ownBlock ≠ some g) := by
              intro g hg e
              rcases hA11.2.2 g e with h | h
              · exact PD.out g hg h
              · have h1 := rowLt P1.out hg
                have h2 : w9.heap.size < (w9.alloc (.cells #[.int .i64 (Y : Int)] 3)).heap.size := by simp
                omega
            clear hown11 hend11 hA11 O2 P1 P2
            go_wp2
            refine ⟨⟨k + 1, by omega, by go_num, ⟨v', v2, rfl, rfl, Q1.out, Q2.out, PB.out, QB.out, QD.out⟩, B11⟩, by simp [intOf]; omega⟩
      · have hke : k = 3 := by omega
        subst hke
        have hO1 := hO.out.1
        have hO2 := hO.out.2.1
        rw [HSS.out] at hO1 hO2
        obtain ⟨qa, qc, rfl, hqc, hq3⟩ := hO1.reads
        obtain ⟨sa, sc, rfl, hsc, hs3⟩ := hO2.reads
        have hX := HQ.out
        have hX5 := HQ5.out
        have e1 : intsN (([l, B, T].take 3).map grpN) = [((grpN l : Nat) : Int), ((grpN l : Nat) : Int), ((grpN T : Nat) : Int)] := by show [((grpN l : Nat) : Int), ((grpN B : Nat) : Int), ((grpN T : Nat) : Int)] = _; rw [hX.1]
        have e2 : intsN (([l, B, T].take 3).map rngN) = [((rngN l : Nat) : Int), ((rngN l : Nat) : Int), ((rngN l : Nat) : Int)] := by show [((rngN l : Nat) : Int), ((rngN B : Nat) : Int), ((rngN T : Nat) : Int)] = _; rw [hX.2.1, hX.2.2]
        rw [e1] at hqc ⊢
        rw [e2] at hsc ⊢
        generalize grpN l = X at hqc hX5 hgz
        generalize grpN T = X2 at hqc hX5
        generalize rngN l = Y at hsc
        have c0 := hqc 0 (by simp)
        have c1 := hqc 1 (by simp)
        have c2 := hqc 2 (by simp)
        have d0 := hsc 0 (by simp)
        have d1 := hsc 1 (by simp)
        have d2 := hsc 2 (by simp)
        obtain ⟨qb, qo, rfl, c0⟩ := c0
        obtain ⟨_, _, h9, c1⟩ := c1
        cases h9
        obtain ⟨_, _, h9, c2⟩ := c2
        cases h9
        obtain ⟨sb, so, rfl, d0⟩ := d0
        obtain ⟨_, _, h9, d1⟩ := d1
        cases h9
        obtain ⟨_, _, h9, d2⟩ := d2
        cases h9
        simp only [List.getD_cons_zero, List.getD_cons_succ, Nat.add_zero] at c0 c1 c2 d0 d1 d2
        have z0 := cell_lt c0
        have z1 := cell_lt d0
        dsimp only at z0 z1
        have v1 : IntKind.i64.wrap ((X2 : Int) - (X : Int)) = (X2 : Int) - (X : Int) := IntWalk.i64_in _ (by omega)
        have v2 : IntKind.i64.wrap ((X : Int) - (X2 : Int)) = (X : Int) - (X2 : Int) := IntWalk.i64_in _ (by omega)
        have v3 : (X2 : Int) - (X : Int) ≤ 1 := by omega
        have v4 : (X : Int) - (X2 : Int) ≤ 1 := by omega
        clear hO hO1 hO2 hqc hsc hX hX5 e1 e2 hq3 hs3
        go_wp2
        go_region_held3 (fun w' => Sees wr w') ((repeat (first | exact Sees.refl _ | assumption | apply Sees.drew | apply Sees.alloc | (refine Sees.ext ?_ (by assumption))))) (first | (go_at_call 8; refine (caseGroups_any _ (HG.out.ext (G6.trans (by exact (show Sees wr _ by assumption).2.2)))).mono ?_; rintro e w9 ⟨rfl, hE⟩))
        have FZ := F6.trans (he.trans (show Sees wr _ by assumption).2.2)
        go_wp2
        go_ret
        exact ⟨rfl, FZ⟩
end Go.Proofs.YtdolibeceijnnaaDoor
