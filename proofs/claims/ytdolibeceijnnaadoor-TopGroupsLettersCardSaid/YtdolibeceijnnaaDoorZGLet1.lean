/- Steps of the proof: QOpen, QOpenI, GGiv, GPrv, GPrw, GVer, QRnm, QLaw, GLet. No conditions. -/
import Derived.ProofKit
import Derived.OpenShut
import Derived.Lib.SmallJoins
import Derived.Deep.Slices
import Derived.Test.YtdolibeceijnnaaDoorCards
import Derived.Test.YtdolibeceijnnaaDoorTie
import Derived.WalkKit
import Derived.Deep.DeepHandedRow
import Derived.Lib.LaidTab
import Derived.LaidSub
import Derived.MakeChecks
import Derived.Test.YtdolibeceijnnaaDoorZGL1
import Derived.Test.YtdolibeceijnnaaDoorZGL2
import Derived.Test.YtdolibeceijnnaaDoorZGL3
import Derived.Test.YtdolibeceijnnaaDoorZGL4
import Derived.Test.YtdolibeceijnnaaDoorZGL5
namespace Go.Proofs.YtdolibeceijnnaaDoor
open Go.RowKit Go.ChangeShapes Go.WideShapes Go.Joins Go.Deep
theorem list2 {α : Type} {l : List α} (h : l.length = 2) : ∃ a b, l = [a, b] := by
  match l, h with
  | [a, b], _ => exact ⟨a, b, rfl⟩
theorem laidOut : laidOutB Tryd.prog = true := by kernel_rfl
theorem cellsOfStk : Tryd.prog.cellsOf 67 = 2 := by kernel_rfl
theorem cellsOfStp : Tryd.prog.cellsOf 65 = 2 := by kernel_rfl
theorem cellsOfInt : Tryd.prog.cellsOf 3 = 1 := by kernel_rfl
theorem cellsOfBool : Tryd.prog.cellsOf 4 = 1 := by kernel_rfl
theorem cellsOfSlk : Tryd.prog.cellsOf 45 = 1 := by kernel_rfl
section
variable {H : Type} {enc : TypeId × Value → H} {w : World} {base : Nat} {spare : Nat → Bool} {held : Bool}
theorem open_stk {fuel : Nat} {cs : List Value} {x : DataW H × List MemPlace} (h : DataW.trod enc Tryd.prog w base spare held fuel 67 cs = some x) : ∃ y : Stk, cs = [.int .i64 y.1, .bool y.2] := by
  obtain ⟨y0, y1, n, _, hl, h0, h1⟩ := trod_struct2 Tryd.underlying67 h
  rw [cellsOfStk] at hl
  obtain ⟨a, b, rfl⟩ := list2 hl
  rw [cellsOfInt] at h0
  rw [cellsOfBool] at h1
  obtain ⟨i, e0, _, w0⟩ := DataW.trod_int Tryd.underlying3 h0
  obtain ⟨j, e1, _⟩ := DataW.trod_bool Tryd.underlying4 h1
  simp at e0 e1
  subst e0; subst e1
  exact ⟨(i, j), rfl⟩
theorem open_stks {a : Addr} {len : Nat} (h : ∀ i, i < len → ∃ cs' n x, w.cells? base (a.add (i * 2)) 2 = some cs' ∧ DataW.trod enc Tryd.prog w base spare held n 67 cs' = some x) : ∃ l : List Stk, l.length = len ∧ CellsK w (some a) l := by
  have key : ∀ i, i < len → ∃ y : Stk, w.cell? (a.add (i * 2)) = some (.int .i64 y.1) ∧ w.cell? ((a.add (i * 2)).add 1) = some (.bool y.2) := fun i hi => by
    obtain ⟨cs', n, x, h1, h2⟩ := h i hi
    obtain ⟨y, rfl⟩ := open_stk h2
    obtain ⟨_, _, hc⟩ := World.cells?_some h1
    have c0 := hc 0 (by omega)
    have c1 := hc 1 (by omega)
    refine ⟨y, ?_, c1⟩
    have e : (a.add (i * 2)).add 0 = a.add (i * 2) := by simp [Addr.add]
    rw [e] at c0
    exact c0
  obtain ⟨f, hf⟩ := choose_lt (α := Stk) key
  refine ⟨(List.range len).map f, by simp, fun i hi => ?_⟩
  have hi' : i < len := by simpa using hi
  obtain ⟨h1, h2⟩ := hf i hi'
  have hp : ((List.range len).map f).getD i stk0 = f i := by simp [List.getD, hi']
  rw [hp]
  obtain ⟨b, off, spot⟩ := a
  have hs : spot = none := by
    have h0 := World.cell?_spot (hf 0 (by omega)).1
    simpa [Addr.add] using h0
  subst hs
  rw [Addr.add_lit] at h1 h2
  rw [Addr.add_lit] at h2
  exact ⟨b, off, rfl, h1, h2⟩
theorem open_slk {fuel : Nat} {v : Value} {x : DataW H × List MemPlace} (h : DataW.trod enc Tryd.prog w base spare held fuel 45 [v] = some x) : ∃ l : List Stk, SliceK w v l := by
  rcases open_slice Tryd.underlying45 h with ⟨h1, _⟩ | ⟨a, len, cap, m, n, D, Pl, h1, hb, hl, hm, hmm, _, hx⟩
  · simp at h1
    exact ⟨[], none, 0, h1, fun i hi => by simp at hi, by simp⟩
  · simp at h1
    rw [cellsOfStk] at hx
    have hlm : len ≤ m := by rw [hmm]; split <;> omega
    obtain ⟨l, hll, hc⟩ := open_stks (enc := enc) (spare := spare) (held := held) (w := w) (base := base) (a := a) (len := len) (fun i hi => by
      obtain ⟨cs', h2, h3⟩ := hx i (by omega)
      exact ⟨cs', n, _, h2, h3⟩)
    exact ⟨l, some a, cap, by rw [h1, hll], hc, by rw [hll]; omega⟩
theorem open_stp {fuel : Nat} {cs : List Value} {x : DataW H × List MemPlace} (h : DataW.trod enc Tryd.prog w base spare held fuel 65 cs = some x) : ∃ (v : Value) (y : Stp), cs = [v, .int .i64 y.2] ∧ SliceK w v y.1 := by
  obtain ⟨y0, y1, n, _, hl, h0, h1⟩ := trod_struct2 Tryd.underlying65 h
  rw [cellsOfStp] at hl
  obtain ⟨a, b, rfl⟩ := list2 hl
  rw [cellsOfInt] at h1
  rw [cellsOfSlk] at h0
  obtain ⟨i, e1, _, w0⟩ := DataW.trod_int Tryd.underlying3 h1
  obtain ⟨l, hv⟩ := open_slk (v := a) (by simpa using h0)
  simp at e1
  subst e1
  exact ⟨a, (l, i), rfl, hv⟩
theorem open_stps {a : Addr} {len : Nat} (h : ∀ i, i < len → ∃ cs' n x, w.cells? base (a.add (i * 2)) 2 = some cs' ∧ DataW.trod enc Tryd.prog w base spare held n 65 cs' = some x) : ∃ l : List Stp, l.length = len ∧ CellsP w (some a) l ∧ (0 < len → a.spot = none) := by
  have key : ∀ i, i < len → ∃ y : Value × Stp, w.cell? (a.add (i * 2)) = some y.1 ∧ w.cell? ((a.add (i * 2)).add 1) = some (.int .i64 y.2.2) ∧ SliceK w y.1 y.2.1 := fun i hi => by
    obtain ⟨cs', n, x, h1, h2⟩ := h i hi
    obtain ⟨v, y, rfl, hv⟩ := open_stp h2
    obtain ⟨_, _, hc⟩ := World.cells?_some h1
    have c0 := hc 0 (by omega)
    have c1 := hc 1 (by omega)
    refine ⟨(v, y), ?_, c1, hv⟩
    have e : (a.add (i * 2)).add 0 = a.add (i * 2) := by simp [Addr.add]
    rw [e] at c0
    exact c0
  obtain ⟨f, hf⟩ := choose_lt (α := Value × Stp) key
  have hs : 0 < len → a.spot = none := fun h0 => by
    have h0 := World.cell?_spot (hf 0 h0).1
    simpa [Addr.add] using h0
  refine ⟨(List.range len).map fun i => (f i).2, by simp, fun i hi => ?_, hs⟩
  have hi' : i < len := by simpa using hi
  obtain ⟨h1, h2, h3⟩ := hf i hi'
  have hp : ((List.range len).map fun i => (f i).2).getD i stp0 = (f i).2 := by simp [List.getD, hi']
  rw [hp]
  obtain ⟨b, off, spot⟩ := a
  have hs := hs (by omega)
  dsimp only at hs
  subst hs
  rw [Addr.add_lit] at h1 h2
  rw [Addr.add_lit] at h2
  exact ⟨b, off, _, rfl, h1, h3, h2⟩
theorem open_slp {fuel : Nat} {v : Value} {x : DataW H × List MemPlace} (h : DataW.trod enc Tryd.prog w base spare held fuel 22 [v] = some x) :
    ∃ (l : List Stp) (a : Option Addr) (cap : Nat), v = .slice a l.length cap ∧ CellsP w a l ∧ l.length ≤ maxLen ∧ Room a l.length cap := by
  rcases open_slice Tryd.underlying22 h with ⟨h1, _⟩ | ⟨a, len, cap, m, n, D, Pl, h1, hb, hl, hm, hmm, _, hx⟩
  · simp at h1
    exact ⟨[], none, 0, h1, fun i hi => by simp at hi, by simp, by simp, by simp, fun h0 => by simp at h0⟩
  · simp at h1
    rw [cellsOfStp] at hx
    have hlm : len ≤ m := by rw [hmm]; split <;> omega
    obtain ⟨l, hll, hc, hs⟩ := open_stps (enc := enc) (spare := spare) (held := held) (w := w) (base := base) (a := a) (len := len) (fun i hi => by
      obtain ⟨cs', h2, h3⟩ := hx i (by omega)
      exact ⟨cs', n, _, h2, h3⟩)
    refine ⟨l, some a, cap, by rw [h1, hll], hc, by rw [hll]; omega, by rw [hll]; exact hl, hm, fun h0 => ?_⟩
    obtain ⟨b, off, spot⟩ := a
    have := hs (by omega)
    dsimp only at this
    subst this
    exact ⟨b, off, rfl⟩
set_option maxRecDepth 100000 in
theorem open_seq {r : Reach} {b0 : Nat} {v : Value} {d : DataW H} {p : List MemPlace} (hv : Value.okWide Tryd.prog w r b0 24 v) (h : DataW.Trod enc Tryd.prog w base spare held 24 v d p) :
    ∃ (n : Int) (l : List Stp) (a : Option Addr) (cap : Nat), v = .agg #[.int .i64 n, .slice a l.length cap] ∧ CellsP w a l ∧ l.length ≤ maxLen ∧ Room a l.length cap ∧ (Lit.int .i64 n).wf = true := by
  obtain ⟨c0, c1, y0, y1, n, rfl, _, _, h0, h1⟩ := open_agg2 Tryd.underlying24 (by kernel_rfl) (by kernel_rfl) hv h
  obtain ⟨i, e0, _, w0⟩ := DataW.trod_int Tryd.underlying3 h0
  obtain ⟨l, a, cap, e1, hc, hl, hr⟩ := open_slp h1
  simp at e0
  subst e0; subst e1
  exact ⟨i, l, a, cap, rfl, hc, hl, hr, w0⟩
end
end Go.Proofs.YtdolibeceijnnaaDoor
namespace Go.Proofs.YtdolibeceijnnaaDoor
open Go.RowKit Go.ChangeShapes Go.WideShapes Go.Joins Go.Deep
section
variable {H : Type} {enc : TypeId × Value → H} {w : World} {base : Nat} {spare : Nat → Bool} {held : Bool}
theorem open_cellsI {a : Addr} {len : Nat} (h : ∀ i, i < len → ∃ cs' n x, w.cells? base (a.add (i * 1)) 1 = some cs' ∧ DataW.trod enc Tryd.prog w base spare held n 3 cs' = some x) : ∃ l : List Int, l.length = len ∧ CellsI w (some a) l := by
  have key : ∀ i, i < len → ∃ y : Int, w.cell? (a.add (i * 1)) = some (.int .i64 y) := fun i hi => by
    obtain ⟨cs', n, x, h1, h2⟩ := h i hi
    obtain ⟨y, rfl, _, _⟩ := DataW.trod_int Tryd.underlying3 h2
    obtain ⟨_, _, hc⟩ := World.cells?_some h1
    have c0 := hc 0 (by omega)
    refine ⟨y, ?_⟩
    have e : (a.add (i * 1)).add 0 = a.add (i * 1) := by simp [Addr.add]
    rw [e] at c0
    exact c0
  obtain ⟨f, hf⟩ := choose_lt (α := Int) key
  refine ⟨(List.range len).map f, by simp, fun i hi => ?_⟩
  have hi' : i < len := by simpa using hi
  have h1 := hf i hi'
  have hp : ((List.range len).map f).getD i 0 = f i := by simp [List.getD, hi']
  rw [hp]
  obtain ⟨b, off, spot⟩ := a
  have hs : spot = none := by
    have h0 := World.cell?_spot (hf 0 (by omega))
    simpa [Addr.add] using h0
  subst hs
  rw [Addr.add_lit, Nat.mul_one] at h1
  exact ⟨b, off, rfl, h1⟩
set_option maxRecDepth 100000 in
theorem open_ints {r : Reach} {b0 : Nat} {v : Value} {d : DataW H} {p : List MemPlace} (hv : Value.okWide Tryd.prog w r b0 27 v) (h : DataW.Trod enc Tryd.prog w base spare held 27 v d p) :
    ∃ (l : List Int) (a : Option Addr) (cap : Nat), v = .slice a l.length cap ∧ CellsI w a l ∧ l.length ≤ cap ∧ cap ≤ maxLen := by
  have key : v.cells.toList = [v] := by
    simp only [Value.okWide, Tryd.underlying27] at hv
    cases v <;> first | rfl | (simp [Cell.okWide, Cell.ok, Tryd.underlying27] at hv)
  obtain ⟨fuel, hf⟩ := h
  rw [key] at hf
  rcases open_slice Tryd.underlying27 hf with ⟨h1, _⟩ | ⟨a, len, cap, m, n, D, Pl, h1, hb, hl, hm, hmm, _, hx⟩
  · simp at h1
    exact ⟨[], none, 0, h1, fun i hi => by simp at hi, by simp, by simp⟩
  · simp at h1
    rw [cellsOfInt] at hx
    have hlm : len ≤ m := by rw [hmm]; split <;> omega
    obtain ⟨l, hll, hc⟩ := open_cellsI (enc := enc) (spare := spare) (held := held) (w := w) (base := base) (a := a) (len := len) (fun i hi => by
      obtain ⟨cs', h2, h3⟩ := hx i (by omega)
      exact ⟨cs', n, _, h2, h3⟩)
    exact ⟨l, some a, cap, by rw [h1, hll], hc, by rw [hll]; exact hl, hm⟩
end
end Go.Proofs.YtdolibeceijnnaaDoor
namespace Go.Proofs.YtdolibeceijnnaaDoor
open Go.ChangeShapes Go.WideShapes Go.ChangeAt Go.RowKit
theorem ownG : ownKnob Tryd.prog.godebug = none := by kernel_rfl
theorem gTab : Tryd.prog.globalNamed "pneumatic/group.bits" = some 0 := by kernel_rfl
theorem gTabT : (Tryd.prog.globals[0]?).map (·.type) = some 105 := by kernel_rfl
theorem cellsTab : Tryd.prog.cellsOf 105 = 6 := by kernel_rfl
theorem cellsU : Tryd.prog.cellsOf 76 = 1 := by kernel_rfl
def bitsTab : List Int := [1, 2, 4, 8, 16, 32]
theorem bits_of {W : World} (hL : laidMetH Tryd.prog Rows.topGroupsJoinRow.laid W) : GBits W := by
  have hP : laidMet Tryd.prog Rows.topGroupsJoinRow.laid W := by
    rw [← MakeChecks.laidMetH_plain _ _ _ (by kernel_rfl)]; exact hL
  have hT : Lib.TabIs Tryd.prog W "pneumatic/group.bits" .u64 bitsTab := Lib.tabIs_of_head gTab gTabT Tryd.underlying105 Tryd.underlying76 cellsU cellsTab hP
  intro i hi
  have h := Lib.TabIs.cell hT gTab i (by unfold bitsTab; simpa using hi)
  rw [h]
  have : i = 0 ∨ i = 1 ∨ i = 2 ∨ i = 3 ∨ i = 4 ∨ i = 5 := by omega
  rcases this with rfl | rfl | rfl | rfl | rfl | rfl <;> rfl
def flatD : Nat → DataW Unit → List Value
  | _ + 1, .lit (.int k z) => [.int k z]
  | n + 1, .agg ds => ds.flatMap (flatD n)
  | _, _ => []
def putC (cs : List Value) : Obj → Obj
  | .cells _ t frozen => .cells ⟨cs⟩ t frozen
  | o => o
noncomputable def laidWorld (os : Os) : World :=
  let w0 := World.holding Tryd.prog os ⟨#[], #[], []⟩
  { w0 with heap := w0.heap.modify 0 (putC (flatD 3 Rows.laid_pneumatic_group_bits)) }
theorem laid_met (os : Os) (args : Array Value) : laidMet Tryd.prog Rows.topGroupsJoinRow.laid ((laidWorld os).forCall (fun _ _ => 0) ⟨#[], args, []⟩).memory :=
  laidMet_of_run' 8 (by kernel_rfl) (by kernel_rfl)
end Go.Proofs.YtdolibeceijnnaaDoor
namespace Go.Proofs.YtdolibeceijnnaaDoor
open Go.RowKit
def Prf (f : Nat → Stp) (n : Nat) : Nat → List (Nat × Nat) → Prop
  | _, [] => True
  | last, p :: r => last ≤ p.1 ∧ p.1 < p.2 ∧ p.2 < n ∧ apart (f p.1) (f p.2) = false ∧ Prf f n p.2 r
theorem lng_chain {ok : Nat → Nat → Bool} (ho : Her ok) {b : Nat} : ∀ c i last, last < b + i → ok last (b + i) = true → ∀ k, k < (lngS ok b c i last).length →
    (last :: lngS ok b c i last).getD k 0 < (last :: lngS ok b c i last).getD (k + 1) 0 ∧ (last :: lngS ok b c i last).getD (k + 1) 0 < b + i + c ∧ ok ((last :: lngS ok b c i last).getD k 0) ((last :: lngS ok b c i last).getD (k + 1) 0) = true ∧ ok ((last :: lngS ok b c i last).getD k 0) ((last :: lngS ok b c i last).getD (k + 1) 0 + 1) = false := by
  intro c
  induction c with
  | zero => intro i last _ _ k hk; simp [lngS] at hk
  | succ c ih =>
    intro i last h1 h2 k hk
    cases hx : ok last (b + i + 1)
    · have e : lngS ok b (c + 1) i last = (b + i) :: lngS ok b c (i + 1) (b + i) := by conv => lhs; unfold lngS
                                                                                       rw [if_neg (by simp [hx])]
      rw [e] at hk ⊢
      cases k with
      | zero => exact ⟨h1, by show b + i < b + i + (c + 1); omega, h2, hx⟩
      | succ k =>
        have := ih (i + 1) (b + i) (by omega) (ho.one _) k (by simpa using hk)
        rw [show b + (i + 1) + c = b + i + (c + 1) by omega] at this
        exact this
    · have e : lngS ok b (c + 1) i last = lngS ok b c (i + 1) last := by conv => lhs; unfold lngS
                                                                         rw [if_pos hx]
      rw [e] at hk ⊢
      have := ih (i + 1) last (by omega) hx k hk
      rw [show b + (i + 1) + c = b + i + (c + 1) by omega] at this
      exact this
theorem long_chain {l : List Stp} (hn : 0 < l.length) {k : Nat} (hk : k + 1 < (longS (okF (cyc l)) l.length 0).length) :
    (longS (okF (cyc l)) l.length 0).getD k 0 < (longS (okF (cyc l)) l.length 0).getD (k + 1) 0 ∧ (longS (okF (cyc l)) l.length 0).getD (k + 1) 0 < l.length ∧ ∃ p, (longS (okF (cyc l)) l.length 0).getD k 0 ≤ p ∧ p < (longS (okF (cyc l)) l.length 0).getD (k + 1) 0 ∧ apart (lin l p) (lin l ((longS (okF (cyc l)) l.length 0).getD (k + 1) 0)) = false := by
  have ho := okF_her (cyc l)
  rw [long_step ho hn] at hk ⊢
  have h := lng_chain ho (b := 0) (l.length - 1) 1 0 (by omega) (ho.one 0) k (by simpa using hk)
  generalize (0 :: lngS (okF (cyc l)) 0 (l.length - 1) 1 0).getD k 0 = x at h ⊢
  generalize (0 :: lngS (okF (cyc l)) 0 (l.length - 1) 1 0).getD (k + 1) 0 = y at h ⊢
  obtain ⟨h1, h2, h3, h4⟩ := h
  refine ⟨h1, by omega, ?_⟩
  refine Classical.byContradiction fun hne => ?_
  have : okF (cyc l) x (y + 1) = true := by
    rw [okF_iff] at h3 ⊢
    intro p q g1 g2 g3
    by_cases hq : q = y
    · subst hq
      rw [cyc_lin (by omega), cyc_lin (by omega)]
      cases ha : apart (lin l p) (lin l q)
      · exact absurd ⟨p, g1, g2, ha⟩ hne
      · rfl
    · exact h3 p q g1 g2 (by omega)
  rw [h4] at this
  cases this
def pairN (ps : List (Nat × Nat)) : List (Value × Value) := ps.map fun p => (.int .i64 (p.1 : Int), .int .i64 (p.2 : Int))
def OwnsN2 (w : World) (v : Value) (ps : List (Nat × Nat)) : Prop := w.ownsRow 0 85 2 v ps.length (flat2 (pairN ps))
theorem OwnsN2.nil (w : World) : OwnsN2 w (.slice none 0 0) [] := World.ownsRow_nil w 0 _ _
theorem OwnsN2.ext {A B : World} {v : Value} {l : List (Nat × Nat)} (h : OwnsN2 A v l) (k : Ext A B) : OwnsN2 B v l := rowExt h k
def CellsN2 (w : World) (a : Option Addr) (ps : List (Nat × Nat)) : Prop := ∀ i, i < ps.length → ∃ b off, a = some ⟨b, off, none⟩ ∧ w.cell? ⟨b, off + i * 2, none⟩ = some (.int .i64 ((ps.getD i (0, 0)).1 : Int)) ∧ w.cell? ⟨b, off + i * 2 + 1, none⟩ = some (.int .i64 ((ps.getD i (0, 0)).2 : Int))
theorem CellsN2.ext {A B : World} {a : Option Addr} {ps : List (Nat × Nat)} (h : CellsN2 A a ps) (e : Ext A B) : CellsN2 B a ps := fun i hi => by
  obtain ⟨b, off, h1, h2, h3⟩ := h i hi
  exact ⟨b, off, h1, e.cell h2, e.cell h3⟩
theorem OwnsN2.reads {A : World} {v : Value} {ps : List (Nat × Nat)} (h : OwnsN2 A v ps) : ∃ a cap, v = .slice a ps.length cap ∧ CellsN2 A a ps := by
  obtain ⟨a, cap, hv, hm, hr⟩ := rowReads h
  refine ⟨a, cap, hv, fun i hi => ?_⟩
  have hg := flat2_get (pairN ps) i (by simpa [pairN] using hi)
  obtain ⟨b, hb, _, h1, _⟩ := hr _ _ hg.1
  obtain ⟨b', hb', _, h2, _⟩ := hr _ _ hg.2
  rw [hb] at hb'
  cases hb'
  refine ⟨b, 0, hb, ?_, ?_⟩
  · rw [Nat.zero_add, h1]; simp [pairN, List.getD, hi]
  · rw [Nat.zero_add, h2]; simp [pairN, List.getD, hi]
theorem ownsN2_app {w : World} {v : Value} {ps : List (Nat × Nat)} {x y : Nat} (h : w.ownsRow 0 85 2 v (ps.length + 1) (flat2 (pairN ps) ++ [.int .i64 (x : Int), .int .i64 (y : Int)])) : OwnsN2 w v (ps ++ [(x, y)]) := by
  unfold OwnsN2 pairN
  rw [List.length_append, List.length_singleton, List.map_append, flat2_append]
  exact h
theorem info2 : (Tryd.prog.info? 85).map (fun i => (i.zero, i.size, i.bytes)) = some (some (.agg #[.int .i64 0, .int .i64 0]), 2, 16) := by kernel_rfl
set_option maxHeartbeats 8000000 in
set_option maxRecDepth 100000 in
theorem prove1_any (sv tv : List Stk) (w1 w2 n : Int) (sa ta : Option Addr) (sc tc : Nat) (a : Option Addr) (L cap k sb kb b off : Nat) (w : World) (ha : a = some ⟨b, off, none⟩) (hk : k < L) (hL : L ≤ 64) (hsm : sv.length ≤ maxLen) (htm : tv.length ≤ maxLen)
    (hsr : ∀ y ∈ sv, 0 ≤ y.1 ∧ y.1 < 6) (htr : ∀ y ∈ tv, 0 ≤ y.1 ∧ y.1 < 6) (hG : GBits w) (hs : CellsK w sa sv) (ht : CellsK w ta tv)
    (s1 : w.cell? ⟨sb, 1, none⟩ = some (.slice a L cap)) (k0 : w.cell? ⟨kb, 0, none⟩ = some (.int .i64 k)) (t0 : w.cell? ⟨b, off + k * 2, none⟩ = some (.slice ta tv.length tc)) (t1 : w.cell? ⟨b, off + k * 2 + 1, none⟩ = some (.int .i64 w2)) :
    Calls Tryd.prog 45 #[.agg #[.slice sa sv.length sc, .int .i64 w1], .pointer (some ⟨sb, 0, none⟩), .pointer (some ⟨kb, 0, none⟩)] w fun r w' => r = .returned (.bool (!apart (sv, w1) (tv, w2))) ∧ Ext w w' := by
  subst ha
  have hap := msk_apart (x := (sv, w1)) (y := (tv, w2)) hsr htr
  dsimp only at hap
  have hb1 := msk_lt hsr
  have hb2 := msk_lt htr
  have HA := bits_and_u64_nat (mskK sv) (mskK tv) (by omega) (by omega)
  have HM1 := Lib.hid (fun W' hG hC => moving_any sv w1 sa sc W' hsm hsr hG hC)
  have HM2 := Lib.hid (fun W' hG hC => moving_any tv w2 ta tc W' htm htr hG hC)
  have HS := Lib.hid hs
  have HT := Lib.hid ht
  have HG := Lib.hid hG
  obtain ⟨q, hq⟩ : ∃ q, q = apart (sv, w1) (tv, w2) := ⟨_, rfl⟩
  rw [← hq] at hap ⊢
  have HAP := Lib.hid hap
  clear hs ht hG hq hap hsm htm hsr htr
  generalize mskK sv = m1 at HA HM1 HAP
  generalize mskK tv = m2 at HA HM2 HAP
  go_enter Tryd.func45, Tryd.ntmps45
  go_wp2_with fail
  have E0 : Ext w (w.alloc (.cells #[.slice sa sv.length sc, .int .i64 w1] 65)) := extA
  have x0 : ((w.alloc (.cells #[.slice sa sv.length sc, .int .i64 w1] 65))).cell? ⟨w.heap.size, 0, none⟩ = some (.slice sa sv.length sc) := by go_simp
  have x1 : ((w.alloc (.cells #[.slice sa sv.length sc, .int .i64 w1] 65))).cell? ⟨w.heap.size, 1, none⟩ = some (.int .i64 w1) := by go_simp
  have s1 := E0.cell s1
  have k0 := E0.cell k0
  have t0 := E0.cell t0
  have t1 := E0.cell t1
  obtain ⟨xb, hxb⟩ : ∃ xb, xb = w.heap.size := ⟨_, rfl⟩
  rw [← hxb] at x0 x1 ⊢
  clear hxb
  generalize (w.alloc (.cells #[.slice sa sv.length sc, .int .i64 w1] 65)) = W at E0 x0 x1 s1 k0 t0 t1 ⊢
  have y0 := cell_lt x0
  have y1 := cell_lt s1
  have y2 := cell_lt k0
  have y3 := cell_lt t0
  dsimp only at y0 y1 y2 y3
  have hkL : (k : Int) < (L : Int) := by omega
  have HX0 : Hid ((((m1 &&& m2 : Nat) : Int) != 0) = !q) := by
    show _ = _
    cases q
    · have : m1 &&& m2 ≠ 0 := fun e => by have := HAP.out.1 e; cases this
      rw [Bool.not_false, bne_iff_ne]; omega
    · have := HAP.out.2 rfl
      rw [this]; rfl
  have hS : W.cell? ⟨xb, 0, none⟩ = some (.slice sa sv.length sc) ∧ W.cell? ⟨xb, 1, none⟩ = some (.int .i64 w1) := ⟨x0, x1⟩
  have ED : Ext W W.drew := extA
  have s1 := ED.cell s1
  have k0 := ED.cell k0
  have t0 := ED.cell t0
  have t1 := ED.cell t1
  refine wp_region_heldE 99 (fun w' => w'.cell? ⟨xb, 0, none⟩ = some (.slice sa sv.length sc) ∧ w'.cell? ⟨xb, 1, none⟩ = some (.int .i64 w1) ∧ w'.cell? ⟨sb, 1, none⟩ = some (.slice (some ⟨b, off, none⟩) L cap) ∧ w'.cell? ⟨kb, 0, none⟩ = some (.int .i64 k) ∧ w'.cell? ⟨b, off + k * 2, none⟩ = some (.slice ta tv.length tc) ∧ w'.cell? ⟨b, off + k * 2 + 1, none⟩ = some (.int .i64 w2)) (by kernel_rfl) ?_
  have hS2 : W.drew.cell? ⟨xb, 0, none⟩ = some (.slice sa sv.length sc) ∧ W.drew.cell? ⟨xb, 1, none⟩ = some (.int .i64 w1) ∧ W.drew.cell? ⟨sb, 1, none⟩ = some (.slice (some ⟨b, off, none⟩) L cap) ∧ W.drew.cell? ⟨kb, 0, none⟩ = some (.int .i64 k) ∧ W.drew.cell? ⟨b, off + k * 2, none⟩ = some (.slice ta tv.length tc) ∧ W.drew.cell? ⟨b, off + k * 2 + 1, none⟩ = some (.int .i64 w2) := ⟨ED.cell x0, ED.cell x1, s1, k0, t0, t1⟩
  clear x0 x1 s1 k0 t0 t1 hS
  have E1 := E0.trans ED
  generalize W.drew = W2 at E1 hS2 ⊢
  clear ED
  ((refine eTk 0 ?_); (refine eTk 2 ?_); (refine eTk 3 ?_); (refine eTk 4 ?_); (refine eTk 5 ?_); (refine eTk 6 ?_))
  (refine wpAnyE_one (i := 1) (o := ?_) ?_ (by kernel_rfl) (fun K hK => ?_); rotate_left; (focus ((simp only [List.getElem?_toArray, List.getElem?_cons_succ, List.getElem?_cons_zero]; exact rfl))); go_simp; refine (HM1.out _ (HG.out.ext E1) (HS.out.ext E1)).mono ?_; rintro e w8 ⟨rfl, hE⟩; go_wp2_with fail; refine hK.out _ _ ?_ (fun hHeld => ?_); rotate_left; clear hK K; (try simp only [Act.put, List.setIfInBounds_toArray, List.set_cons_zero, List.set_cons_succ]))
  rotate_left
  · exact ⟨hE.cell hS2.1, hE.cell hS2.2.1, hE.cell hS2.2.2.1, hE.cell hS2.2.2.2.1, hE.cell hS2.2.2.2.2.1, hE.cell hS2.2.2.2.2.2⟩
  have hS3 : w8.cell? ⟨xb, 0, none⟩ = some (.slice sa sv.length sc) ∧ w8.cell? ⟨xb, 1, none⟩ = some (.int .i64 w1) ∧ w8.cell? ⟨sb, 1, none⟩ = some (.slice (some ⟨b, off, none⟩) L cap) ∧ w8.cell? ⟨kb, 0, none⟩ = some (.int .i64 k) ∧ w8.cell? ⟨b, off + k * 2, none⟩ = some (.slice ta tv.length tc) ∧ w8.cell? ⟨b, off + k * 2 + 1, none⟩ = some (.int .i64 w2) := by assumption
  have E2 := E1.trans hE
  (refine wpAnyE_one (i := 7) (o := ?_) ?_ (by kernel_rfl) (fun K hK => ?_); rotate_left; (focus ((simp only [List.getElem?_toArray, List.getElem?_cons_succ, List.getElem?_cons_zero]; exact rfl))); go_simp; refine (HM2.out _ (HG.out.ext E2) (HT.out.ext E2)).mono ?_; rintro e w9 ⟨rfl, hE9⟩; go_wp2_with fail; refine hK.out _ _ ?_ (fun hHeld => ?_); rotate_left; clear hK K; (try simp only [Act.put, List.setIfInBounds_toArray, List.set_cons_zero, List.set_cons_succ]))
  rotate_left
  · exact ⟨hE9.cell hS3.1, hE9.cell hS3.2.1, hE9.cell hS3.2.2.1, hE9.cell hS3.2.2.2.1, hE9.cell hS3.2.2.2.2.1, hE9.cell hS3.2.2.2.2.2⟩
  ((refine ePu 8 ?_); (refine ePu 9 ?_); (refine ePu 10 ?_))
  refine wpAnyE_done (by kernel_rfl) ?_ _
  have hx := HX0.out
  go_wp2
  go_ret
  exact ⟨ret_bool hx, E2.trans hE9⟩
end Go.Proofs.YtdolibeceijnnaaDoor
namespace Go.Proofs.YtdolibeceijnnaaDoor
open Go.RowKit
set_option maxHeartbeats 8000000 in
set_option maxRecDepth 100000 in
theorem IndexG_any (seg l : List Stp) (a : Option Addr) (b o c2 cap k sb kb : Nat) (w : World) (h : SeqG w a l) (hk : k < l.length) (hc : CellsP w (some ⟨b, o, none⟩) seg) (hsl : seg.length ≤ 64) (hr : ∀ x ∈ seg, ∀ y ∈ x.1, 0 ≤ y.1 ∧ y.1 < 6)
    (s1 : w.cell? ⟨sb, 1, none⟩ = some (.slice a l.length cap)) (k0 : w.cell? ⟨kb, 0, none⟩ = some (.int .i64 k)) (hex : ∃ r, r < seg.length ∧ apart (seg.getD r stp0) (lin l k) = false) :
    Calls Tryd.prog 44 #[.slice (some ⟨b, o, none⟩) seg.length c2, .func (.func 45) #[] #[.pointer (some ⟨sb, 0, none⟩), .pointer (some ⟨kb, 0, none⟩)]] w
      fun e w' => ∃ r : Nat, r < seg.length ∧ e = .returned (.int .i64 r) ∧ apart (seg.getD r stp0) (lin l k) = false ∧ Ext w w' := by
  have HH := Lib.hid h
  have HC := Lib.hid hc
  have HR := Lib.hid hr
  have HEX := Lib.hid hex
  have hl64 := h.len
  clear h hc hr hex
  go_enter Tryd.func44, Tryd.ntmps44
  go_wp2
  go_loopw [8] (fun i wr => ∃ j : Nat, j ≤ seg.length ∧ i = .int .i64 j ∧ Hid (∀ r, r < j → apart (seg.getD r stp0) (lin l k) = true) ∧ Ext w wr) (fun i _ => seg.length - (intOf i).toNat)
  case atStart => exact ⟨0, Nat.zero_le _, rfl, fun r hr => by omega, Ext.refl _⟩
  case round =>
    obtain ⟨j, hj, rfl, hz, he⟩ := hrel
    by_cases hlt : j < seg.length
    · obtain ⟨b', off', v, hb, p0, p1, p2⟩ := HC.out.ext he j hlt
      cases hb
      obtain ⟨xa, xc, rfl, hxc, hxm⟩ := p1
      obtain ⟨lb, lo, v2, hla, q0, q1, q2⟩ := HH.out.cells.ext he k hk
      obtain ⟨ya, yc, rfl, hyc, hym⟩ := q1
      have hrx := HR.out _ (getD_inn (d := stp0) hlt)
      have hry := HH.out.rng _ (getD_inn (d := stp0) hk)
      have hap : ∃ q, apart (seg.getD j stp0) (lin l k) = q := ⟨_, rfl⟩
      obtain ⟨q, hq⟩ := hap
      have hq2 := hq
      unfold lin at hq2
      have hp1 := prove1_any (seg.getD j stp0).1 (l.getD k stp0).1 (seg.getD j stp0).2 (l.getD k stp0).2 0 xa ya xc yc a l.length cap k sb kb lb lo wr hla hk hl64 hxm hym hrx hry (HH.out.bits.ext he) hxc hyc (he.cell s1) (he.cell k0) q0 q2
      have hq3 : apart ((seg.getD j stp0).1, (seg.getD j stp0).2) ((l.getD k stp0).1, (l.getD k stp0).2) = q := hq2
      rw [hq3] at hp1
      have HP1 := Lib.hid hp1
      have HQ := Lib.hid hq
      clear hp1 hq hq2 hq3 hxc hyc hrx hry hla q0 q2 hxm hym
      generalize (seg.getD j stp0).1 = st at p0 HP1
      generalize (seg.getD j stp0).2 = wt at p2 HP1
      have z1 := cell_lt p0
      dsimp only at z1
      go_wp2_with fail
      refine HP1.out.mono ?_
      rintro e w1 ⟨rfl, hE⟩
      have E1 := he.trans hE
      clear HP1
      cases q
      · go_wp2
        go_ret
        exact ⟨j, hlt, rfl, HQ.out, E1⟩
      · have HZ : Hid (∀ r, r < j + 1 → apart (seg.getD r stp0) (lin l k) = true) := fun r hr => by
          by_cases e : r = j
          · subst e; exact HQ.out
          · exact hz.out r (by omega)
        go_wp2
        refine ⟨⟨j + 1, by omega, by go_num, HZ, E1⟩, by simp [intOf]; omega⟩
    · exfalso
      obtain ⟨r, hr, hr2⟩ := HEX.out
      have := hz.out r (by omega)
      rw [hr2] at this
      cases this
set_option maxHeartbeats 8000000 in
set_option maxRecDepth 100000 in
theorem FewestO_any (n : Int) (l : List Stp) (a : Option Addr) (cap : Nat) (w : World) (hk : ckSeq (n, l) = 0) (hG : GBits w) (hc : CellsP w a l) :
    Calls Tryd.prog 12 #[.agg #[.int .i64 n, .slice a l.length cap]] w fun e w' => ∃ v, e = .returned (.tuple #[v, .int .i64 0]) ∧ OwnsI w' v (intsN (longS (okF (cyc l)) l.length 0)) ∧ Ext w w' := by
  have HS := Lib.hid (seqG_of hk hc hG)
  have HCK := Lib.hid (fun W h => Check_any n l a cap W (by have := (ckSeq_right hk).len; unfold maxLen; omega) h)
  rw [hk] at HCK
  have HLN := Lib.hid (fun W h => longest_any n l a cap 0 W (by omega) h)
  clear hk hG hc
  generalize longS (okF (cyc l)) l.length 0 = L at HLN ⊢
  go_enter Tryd.func12, Tryd.ntmps12
  go_wp2_with fail
  have E1 : Ext w (w.alloc (.cells #[.int .i64 n, .slice a l.length cap] 24)) := extA
  have c0 : ((w.alloc (.cells #[.int .i64 n, .slice a l.length cap] 24))).cell? ⟨w.heap.size, 0, none⟩ = some (.int .i64 n) := by go_simp
  have c1 : ((w.alloc (.cells #[.int .i64 n, .slice a l.length cap] 24))).cell? ⟨w.heap.size, 1, none⟩ = some (.slice a l.length cap) := by go_simp
  obtain ⟨bs, hbs⟩ : ∃ bs, bs = w.heap.size := ⟨_, rfl⟩
  rw [← hbs] at c0 c1 ⊢
  clear hbs
  generalize (w.alloc (.cells #[.int .i64 n, .slice a l.length cap] 24)) = W at E1 c0 c1 ⊢
  refine (HCK.out _ (HS.out.ext E1).cells).mono ?_
  rintro e w1 ⟨rfl, hE⟩
  have F1 := E1.trans hE
  have c0 := hE.cell c0
  have c1 := hE.cell c1
  go_wp2_with fail
  refine (HLN.out _ (HS.out.ext F1)).mono ?_
  rintro e w2 ⟨v, rfl, hO, hb, hE2⟩
  have HO := Lib.hid hO
  clear hO
  go_wp2
  go_ret2
  exact ⟨v, rfl, HO.out, F1.trans hE2⟩
set_option maxHeartbeats 16000000 in
set_option maxRecDepth 100000 in
theorem Prove_any (n : Int) (l : List Stp) (a : Option Addr) (cap : Nat) (w : World) (hk : ckSeq (n, l) = 0) (hG : GBits w) (hc : CellsP w a l) (hr : Room a l.length cap) :
    Calls Tryd.prog 17 #[.agg #[.int .i64 n, .slice a l.length cap]] w fun e w' => ∃ v ps, e = .returned (.tuple #[v, .int .i64 0]) ∧ OwnsN2 w' v ps ∧ ps.length + 1 = (longS (okF (cyc l)) l.length 0).length ∧ Prf (lin l) l.length 0 ps ∧ Ext w w' := by
  have HS := Lib.hid (seqG_of hk hc hG)
  have HF := Lib.hid (fun W hg h => FewestO_any n l a cap W hk hg h)
  have hl0 := HS.out.pos
  have hl64 := HS.out.len
  have HR := Lib.hid hr
  have HCH := Lib.hid (fun k h => long_chain hl0 (k := k) h)
  have hLn := long_len (okF_her (cyc l)) (b := 0) hl0
  have hLp : 0 < (longS (okF (cyc l)) l.length 0).length := by unfold longS; simp
  clear hk hG hc hr
  generalize longS (okF (cyc l)) l.length 0 = L at HF HCH hLn hLp ⊢
  obtain ⟨i0, hi, hi0, hi1, hi2⟩ := info_parts info2
  go_enter Tryd.func17, Tryd.ntmps17
  go_wp2_with fail
  have E1 : Ext w (w.alloc (.cells #[.int .i64 n, .slice a l.length cap] 24)) := extA
  have c0 : ((w.alloc (.cells #[.int .i64 n, .slice a l.length cap] 24))).cell? ⟨w.heap.size, 0, none⟩ = some (.int .i64 n) := by go_simp
  have c1 : ((w.alloc (.cells #[.int .i64 n, .slice a l.length cap] 24))).cell? ⟨w.heap.size, 1, none⟩ = some (.slice a l.length cap) := by go_simp
  obtain ⟨bs, hbs⟩ : ∃ bs, bs = w.heap.size := ⟨_, rfl⟩
  rw [← hbs] at c0 c1 ⊢
  clear hbs
  generalize (w.alloc (.cells #[.int .i64 n, .slice a l.length cap] 24)) = W at E1 c0 c1 ⊢
  refine (HF.out _ (HS.out.ext E1).bits (HS.out.ext E1).cells).mono ?_
  rintro e w1 ⟨v, rfl, hO, hE⟩
  have F1 := E1.trans hE
  have c0 := hE.cell c0
  have c1 := hE.cell c1
  obtain ⟨va, vc, rfl, hvc, hvm⟩ := hO.reads
  have hrm := rowRoom hO rfl
  rw [intsN_len] at hrm ⊢
  obtain ⟨vb, vo, rfl, _⟩ := hvc 0 (by rw [intsN_len]; exact hLp)
  obtain ⟨hb', ho', _, rfl, _⟩ := (HS.out.cells 0 hl0)
  have HV := Lib.hid hvc
  have hvcap := hrm.1
  have hz1 := HS.out.ext F1
  have HSS := Lib.hid hz1
  clear hO hE hvc hvm hz1
  obtain ⟨M, hM⟩ : ∃ M, L.length = M + 1 := ⟨L.length - 1, by omega⟩
  rw [hM] at hvcap ⊢
  have HLM := Lib.hid hM
  have hvm : vc ≤ maxLen := hrm.2.1
  unfold maxLen at hvm
  clear hM hrm hLp
  by_cases hM0 : M = 0
  · subst hM0
    by_cases hv1 : vc = 1
    · subst hv1
      go_wp2
      go_loopw [21, 6] (fun x y wr => x = .int .i64 0 ∧ y = .slice none 0 0 ∧ Ext w1 wr) (fun _ _ _ => 0)
      case atStart => exact ⟨rfl, rfl, Ext.refl _⟩
      case round =>
        obtain ⟨rfl, rfl, he⟩ := hrel
        go_wp2
        go_ret2
        exact ⟨_, [], rfl, OwnsN2.nil _, HLM.out.symm, trivial, F1.trans he⟩
    · go_wp2
      go_loopw [21, 6] (fun x y wr => x = .int .i64 0 ∧ y = .slice none 0 0 ∧ Ext w1 wr) (fun _ _ _ => 0)
      case atStart => exact ⟨rfl, rfl, Ext.refl _⟩
      case round =>
        obtain ⟨rfl, rfl, he⟩ := hrel
        go_wp2
        go_ret2
        exact ⟨_, [], rfl, OwnsN2.nil _, HLM.out.symm, trivial, F1.trans he⟩
  have hv1 : ¬ vc = 1 := by omega
  have hcap := HR.out.1
  have hcm := HR.out.2.1
  unfold maxLen at hcm
  go_wp2
  go_loopw [21, 6] (fun x v wr => ∃ k : Nat, k ≤ M ∧ x = .int .i64 k ∧ (∃ y ps, v = y ∧ Hid (OwnsN2 wr y ps ∧ (∀ g, y.ownBlock = some g → w1.heap.size ≤ g) ∧ ps.length = k ∧ ∀ r, Prf (lin l) l.length (L.getD k 0) r → Prf (lin l) l.length 0 (ps ++ r))) ∧ Ext w1 wr) (fun x _ _ => M - (intOf x).toNat)
  case atStart => exact ⟨0, Nat.zero_le _, rfl, ⟨_, [], rfl, OwnsN2.nil _, fun g hg => (by cases hg), rfl, fun r hr => (by
    cases r with
    | nil => trivial
    | cons p r => exact ⟨Nat.zero_le _, hr.2⟩)⟩, Ext.refl _⟩
  case round =>
    obtain ⟨k, hk, rfl, ⟨y, ps, hy, hO⟩, he⟩ := hrel
    obtain rfl := hy.symm
    have F2 := F1.trans he
    by_cases hlt : k < M
    · obtain ⟨g1, g2, pp, g3, g4, g5⟩ := HCH.out k (by have := HLM.out; omega)
      obtain ⟨_, _, h9, d1⟩ := HV.out.ext he k (by rw [intsN_len]; have := HLM.out; omega)
      cases h9
      obtain ⟨_, _, h9, d2⟩ := HV.out.ext he (k + 1) (by rw [intsN_len]; have := HLM.out; omega)
      cases h9
      rw [intsN_get] at d1 d2
      rw [show vo + (k + 1) = vo + 1 + k by omega] at d2
      obtain ⟨li, hli⟩ : ∃ li, li = L.getD k 0 := ⟨_, rfl⟩
      obtain ⟨kk, hkk⟩ : ∃ kk, kk = L.getD (k + 1) 0 := ⟨_, rfl⟩
      rw [← hli] at d1 g1 g3 hO
      rw [← hkk] at d2 g1 g2 g4 g5
      have HLK := Lib.hid (And.intro hli hkk)
      clear hli hkk
      have c0 := he.cell c0
      have c1 := he.cell c1
      have z0 := cell_lt c0
      have z1 := cell_lt d1
      dsimp only at z0 z1
      have hcl : ¬ (cap = li) := by omega
      obtain ⟨seg, hseg⟩ : ∃ seg, seg = (l.take kk).drop li := ⟨_, rfl⟩
      have hsl : seg.length = kk - li := by rw [hseg, List.length_drop, List.length_take]; omega
      have hsg : ∀ j, j < kk - li → seg.getD j stp0 = lin l (li + j) := fun j hj => by
        rw [hseg]
        unfold lin
        rw [List.getD_eq_getElem?_getD, List.getD_eq_getElem?_getD, List.getElem?_drop, List.getElem?_take_of_lt (by omega)]
      have hrs : ∀ x ∈ seg, ∀ y ∈ x.1, 0 ≤ y.1 ∧ y.1 < 6 := fun x hx => HS.out.rng x (by rw [hseg] at hx; exact List.mem_of_mem_take (List.mem_of_mem_drop hx))
      have hcs := ((HSS.out.ext he).cells.take kk).drop li
      rw [← hseg] at hcs
      have hex : ∃ r, r < seg.length ∧ apart (seg.getD r stp0) (lin l kk) = false := ⟨pp - li, by omega, by rw [hsg _ (by omega), show li + (pp - li) = pp by omega]; exact g5⟩
      have HIX := Lib.hid (fun W' kb (hE' : Ext wr W') h1 h2 => IndexG_any seg l (some ⟨hb', ho', none⟩) hb' (ho' + li * 2) (cap - li) cap kk bs kb W' ((HSS.out.ext he).ext hE') g2 (hcs.ext hE') (by omega) hrs h1 h2 hex)
      have HSG := Lib.hid hsg
      rw [hsl] at HIX
      have u1 : (li : Int) ≤ (kk : Int) := by omega
      have u2 : (kk : Int) ≤ (cap : Int) := by omega
      have u3 : (k : Int) < (M : Int) + 1 := by omega
      clear hcs hrs hex hsg hsl hseg g3 g4 g5
      go_wp2
      have EB : Ext wr (wr.alloc (.cells #[.int .i64 kk] 3)) := extA
      have kc : ((wr.alloc (.cells #[.int .i64 kk] 3))).cell? ⟨wr.heap.size, 0, none⟩ = some (.int .i64 kk) := by go_simp
      have c1 := EB.cell c1
      have d1 := EB.cell d1
      obtain ⟨kb, hkb⟩ : ∃ kb, kb = wr.heap.size := ⟨_, rfl⟩
      rw [← hkb] at kc ⊢
      clear hkb c0 d2
      generalize (wr.alloc (.cells #[.int .i64 kk] 3)) = WB at EB kc c1 d1 ⊢
      have z0 := cell_lt c1
      have z1 := cell_lt d1
      have z2 := cell_lt kc
      dsimp only at z0 z1 z2
      have G2 := F2.trans EB
      go_region_held3 (fun w' => Sees WB w') ((repeat (first | exact Sees.refl _ | assumption | apply Sees.drew | apply Sees.alloc | (refine Sees.ext ?_ (by assumption))))) (first | (go_at_call 44; refine (HIX.out _ kb (EB.trans (by exact (show Sees WB _ by assumption).2.2)) ((show Sees WB _ by assumption).2.2.cell c1) ((show Sees WB _ by assumption).2.2.cell kc)).mono ?_; rintro e w' ⟨r, hr, rfl, har, hE⟩))
      have F := (show Sees WB _ by assumption).2.2
      have u4 : IntKind.i64.wrap ((li : Int) + (r : Int)) = ((li + r : Nat) : Int) := by rw [IntWalk.i64_in _ (by omega)]; omega
      have kc := F.cell kc
      have z2 := cell_lt kc
      dsimp only at z2
      have G3 := he.trans (EB.trans F)
      have hsz3 := G3.size
      have O2 := Lib.hid (hO.out.1.ext (EB.trans F))
      have OB := Lib.hid hO.out.2
      have HNX : Hid (∀ r', Prf (lin l) l.length (L.getD (k + 1) 0) r' → Prf (lin l) l.length 0 ((ps ++ [(li + r, kk)]) ++ r')) := fun r' hr' => by
        rw [List.append_assoc]
        refine hO.out.2.2.2 _ ⟨Nat.le_add_right _ _, by show li + r < kk; omega, g2, ?_, ?_⟩
        · show apart (lin l (li + r)) (lin l kk) = false
          rw [← HSG.out r (by omega)]; exact har
        · show Prf (lin l) l.length kk r'
          rw [HLK.out.2]; exact hr'
      have hpl := hO.out.2.2.1
      have hpk : ps.length ≤ 64 := by have := HLM.out; omega
      clear hO har HIX HSG
      generalize w' = w2 at G3 hsz3 O2 kc z2 ⊢
      go_wp2_with (at_builtin; refine wpList_append1 _ rfl _ _ 39 rfl 85 i0 (.agg #[.int .i64 0, .int .i64 0]) 2 16 Tryd.underlying39 hi hi0 hi1 hi2 rfl (by decide) y ps.length (flat2 (pairN ps)) rfl ?ho ⟨w2.heap.size, 0, none⟩ 1 1 (by decide) [.int .i64 ((li + r : Nat) : Int), .int .i64 (kk : Int)] rfl rfl ?hn ?c1 ?c2 ?c3 ?c4)
      case ho => exact O2.out.ext ((Ext.refl _).alloc _)
      case hn => exact cells_one _ _ _
      case c1 => intro u hu; simp at hu; rcases hu with rfl | rfl <;> rfl
      case c2 => unfold maxLen; omega
      case c3 => omega
      case c4 =>
        intro v' w5 hown5 hend5
        have O5 := Lib.hid (ownsN2_app (ps := ps) (x := li + r) (y := kk) (by rw [hpl, Int.natCast_add]; exact hown5))
        have B5 : Ext w1 w5 := (G3.trans ((Ext.refl _).alloc _)).trans' (hend5.below (n := w1.heap.size) (by simp; omega) OB.out.1) (Nat.le_refl _)
        have OB5 : Hid (∀ b, v'.ownBlock = some b → w1.heap.size ≤ b) := hend5.ge (n := w1.heap.size) (by simp; omega) OB.out.1
        clear hown5 hend5 O2 OB
        go_wp2
        refine ⟨⟨k + 1, by omega, by go_num, ⟨v', _, rfl, O5.out, OB5.out, by rw [List.length_append, List.length_singleton, hpl], HNX.out⟩, B5⟩, by simp [intOf]; omega⟩
    · have hke : k = M := by omega
      subst hke
      have hp := hO.out.2.2.2 [] trivial
      rw [List.append_nil] at hp
      have hpl := hO.out.2.2.1
      go_wp2
      go_ret2
      first
        | exact ⟨y, ps, rfl, hO.out.1, by rw [hpl]; exact HLM.out.symm, hp, F2⟩
        | exact ⟨y, rfl, ps, hO.out.1, by rw [hpl]; exact HLM.out.symm, hp, F2⟩
        | exact ⟨y, rfl, ⟨ps, hO.out.1, by rw [hpl]; exact HLM.out.symm, hp⟩, F2⟩
end Go.Proofs.YtdolibeceijnnaaDoor
namespace Go.Proofs.YtdolibeceijnnaaDoor
open Go.RowKit
set_option maxHeartbeats 16000000 in
set_option maxRecDepth 100000 in
theorem Verify_any (n : Int) (l : List Stp) (a : Option Addr) (cap : Nat) (ps : List (Nat × Nat)) (pa : Option Addr) (pc : Nat) (w : World) (hk : ckSeq (n, l) = 0) (hG : GBits w) (hc : CellsP w a l) (hp : CellsN2 w pa ps) (hpl : ps.length ≤ l.length) (hpf : Prf (lin l) l.length 0 ps) :
    Calls Tryd.prog 18 #[.agg #[.int .i64 n, .slice a l.length cap], .slice pa ps.length pc] w fun e w' => e = .returned (.tuple #[.int .i64 ((ps.length + 1 : Nat) : Int), .int .i64 0]) ∧ Ext w w' := by
  have HS := Lib.hid (seqG_of hk hc hG)
  have HCK := Lib.hid (fun W h => Check_any n l a cap W (by have := (ckSeq_right hk).len; unfold maxLen; omega) h)
  rw [hk] at HCK
  have HP := Lib.hid hp
  have HF := Lib.hid hpf
  have hl0 := HS.out.pos
  have hl64 := HS.out.len
  clear hk hG hc hp hpf
  go_enter Tryd.func18, Tryd.ntmps18
  go_wp2_with fail
  have E1 : Ext w (w.alloc (.cells #[.int .i64 n, .slice a l.length cap] 24)) := extA
  have c0 : ((w.alloc (.cells #[.int .i64 n, .slice a l.length cap] 24))).cell? ⟨w.heap.size, 0, none⟩ = some (.int .i64 n) := by go_simp
  have c1 : ((w.alloc (.cells #[.int .i64 n, .slice a l.length cap] 24))).cell? ⟨w.heap.size, 1, none⟩ = some (.slice a l.length cap) := by go_simp
  obtain ⟨bs, hbs⟩ : ∃ bs, bs = w.heap.size := ⟨_, rfl⟩
  rw [← hbs] at c0 c1 ⊢
  clear hbs
  generalize (w.alloc (.cells #[.int .i64 n, .slice a l.length cap] 24)) = W at E1 c0 c1 ⊢
  refine (HCK.out _ (HS.out.ext E1).cells).mono ?_
  rintro e w1 ⟨rfl, hE⟩
  have F1 := E1.trans hE
  have c0 := hE.cell c0
  have c1 := hE.cell c1
  have hpl2 : ¬ ((l.length : Int) < (ps.length : Int)) := by omega
  have hpl3 : ¬ (l.length < ps.length) := by omega
  have hpl4 : decide (l.length < ps.length) = false := decide_eq_false hpl3
  clear hE E1 HCK
  go_wp2
  go_loopw [23, 7] (fun x v wr => ∃ k last : Nat, k ≤ ps.length ∧ x = .int .i64 k ∧ v = .int .i64 last ∧ Hid (Prf (lin l) l.length last (ps.drop k)) ∧ Ext w1 wr) (fun x _ _ => ps.length - (intOf x).toNat)
  case atStart => exact ⟨0, 0, Nat.zero_le _, rfl, rfl, HF.out, Ext.refl _⟩
  case round =>
    obtain ⟨k, last, hk, rfl, rfl, hz, he⟩ := hrel
    have F2 := F1.trans he
    by_cases hlt : k < ps.length
    · obtain ⟨b, off, ha, p0, p1⟩ := HP.out.ext F2 k hlt
      subst ha
      have hz2 := hz.out
      rw [drop_cons ps (0, 0) hlt] at hz2
      obtain ⟨g1, g2, g3, g4, g5⟩ := hz2
      generalize ps.getD k (0, 0) = pr at p0 p1 g1 g2 g3 g4 g5
      obtain ⟨x, y⟩ := pr
      dsimp only at p0 p1 g1 g2 g3 g4 g5
      obtain ⟨lb, lo, v1, hla, q0, q1, q2⟩ := HS.out.cells.ext F2 x (by omega)
      subst hla
      obtain ⟨xa, xc, rfl, hxc, hxm⟩ := q1
      obtain ⟨_, _, v2, hla, r0, r1, r2⟩ := HS.out.cells.ext F2 y g3
      cases hla
      obtain ⟨ya, yc, rfl, hyc, hym⟩ := r1
      have hrx := HS.out.rng _ (getD_inn (d := stp0) (show x < l.length by omega))
      have hry := HS.out.rng _ (getD_inn (d := stp0) g3)
      have hap := msk_apart hrx hry
      have g4' : apart (l.getD x stp0) (l.getD y stp0) = false := g4
      rw [g4'] at hap
      have hb1 := msk_lt hrx
      have hb2 := msk_lt hry
      have HA := bits_and_u64_nat (mskK (l.getD x stp0).1) (mskK (l.getD y stp0).1) (by omega) (by omega)
      have HM1 := Lib.hid (fun W' hG hC => moving_any (l.getD x stp0).1 (l.getD x stp0).2 xa xc W' hxm hrx hG hC)
      have HM2 := Lib.hid (fun W' hG hC => moving_any (l.getD y stp0).1 (l.getD y stp0).2 ya yc W' hym hry hG hC)
      have HXC := Lib.hid hxc
      have HYC := Lib.hid hyc
      have HN : Hid ((((mskK (l.getD x stp0).1 &&& mskK (l.getD y stp0).1 : Nat) : Int) == 0) = false) := by
        show _ = _
        have : mskK (l.getD x stp0).1 &&& mskK (l.getD y stp0).1 ≠ 0 := fun e => by have := hap.1 e; cases this
        rw [beq_eq_false_iff_ne]; omega
      have HG5 := Lib.hid g5
      clear hap hxc hyc hrx hry g4 g4' g5 hz hb1 hb2 hxm hym
      generalize mskK (l.getD x stp0).1 = m1 at HA HM1 HN
      generalize mskK (l.getD y stp0).1 = m2 at HA HM2 HN
      generalize (l.getD x stp0).2 = wx at q2 HM1
      generalize (l.getD y stp0).2 = wy at r2 HM2
      generalize (l.getD x stp0).1 = sx at q0 HM1 HXC
      generalize (l.getD y stp0).1 = sy at r0 HM2 HYC
      have c0 := he.cell c0
      have c1 := he.cell c1
      have z0 := cell_lt c0
      have z1 := cell_lt p0
      have z2 := cell_lt q0
      dsimp only at z0 z1 z2
      have a1 : ¬ ((y : Int) < (x : Int)) := by omega
      have a2 : (x : Int) < (y : Int) := by omega
      have a3 : ¬ ((x : Int) < 0) := by omega
      have a4 : ¬ ((l.length : Int) ≤ (y : Int)) := by omega
      have a5 : ¬ ((y : Int) ≤ (x : Int)) := by omega
      have a6 : ¬ ((x : Int) < (last : Int)) := by omega
      have a7 : ¬ ((y : Int) < 0) := by omega
      have a8 : ¬ (y ≤ x) := by omega
      have a9 : ¬ (y < x) := by omega
      have b1 : ¬ (l.length ≤ y) := by omega
      have b2 : ¬ (x < last) := by omega
      by_cases hk1 : 0 < k
      · have hk2 : (0 : Int) < (k : Int) := by omega
        go_wp2
        have EB : Ext wr (wr.alloc (.cells #[.int .i64 x, .int .i64 y] 85)) := extA
        have k0 : ((wr.alloc (.cells #[.int .i64 x, .int .i64 y] 85))).cell? ⟨wr.heap.size, 0, none⟩ = some (.int .i64 x) := by go_simp
        have k1 : ((wr.alloc (.cells #[.int .i64 x, .int .i64 y] 85))).cell? ⟨wr.heap.size, 1, none⟩ = some (.int .i64 y) := by go_simp
        have hS0 : ((wr.alloc (.cells #[.int .i64 x, .int .i64 y] 85))).cell? ⟨bs, 1, none⟩ = some (.slice (some ⟨lb, lo, none⟩) l.length cap) ∧ ((wr.alloc (.cells #[.int .i64 x, .int .i64 y] 85))).cell? ⟨wr.heap.size, 0, none⟩ = some (.int .i64 x) ∧ ((wr.alloc (.cells #[.int .i64 x, .int .i64 y] 85))).cell? ⟨wr.heap.size, 1, none⟩ = some (.int .i64 y) ∧ ((wr.alloc (.cells #[.int .i64 x, .int .i64 y] 85))).cell? ⟨lb, lo + x * 2, none⟩ = some (.slice xa sx.length xc) ∧ ((wr.alloc (.cells #[.int .i64 x, .int .i64 y] 85))).cell? ⟨lb, lo + x * 2 + 1, none⟩ = some (.int .i64 wx) ∧ ((wr.alloc (.cells #[.int .i64 x, .int .i64 y] 85))).cell? ⟨lb, lo + y * 2, none⟩ = some (.slice ya sy.length yc) ∧ ((wr.alloc (.cells #[.int .i64 x, .int .i64 y] 85))).cell? ⟨lb, lo + y * 2 + 1, none⟩ = some (.int .i64 wy) := ⟨EB.cell c1, k0, k1, EB.cell q0, EB.cell q2, EB.cell r0, EB.cell r2⟩
        obtain ⟨pb, hpb⟩ : ∃ pb, pb = wr.heap.size := ⟨_, rfl⟩
        rw [← hpb] at hS0 ⊢
        clear hpb c0 c1 p0 p1 q0 q2 r0 r2 k0 k1 z0 z1 z2
        generalize (wr.alloc (.cells #[.int .i64 x, .int .i64 y] 85)) = WB at EB hS0 ⊢
        refine wp_region_heldE 99 (fun w' => w'.cell? ⟨bs, 1, none⟩ = some (.slice (some ⟨lb, lo, none⟩) l.length cap) ∧ w'.cell? ⟨pb, 0, none⟩ = some (.int .i64 x) ∧ w'.cell? ⟨pb, 1, none⟩ = some (.int .i64 y) ∧ w'.cell? ⟨lb, lo + x * 2, none⟩ = some (.slice xa sx.length xc) ∧ w'.cell? ⟨lb, lo + x * 2 + 1, none⟩ = some (.int .i64 wx) ∧ w'.cell? ⟨lb, lo + y * 2, none⟩ = some (.slice ya sy.length yc) ∧ w'.cell? ⟨lb, lo + y * 2 + 1, none⟩ = some (.int .i64 wy)) (by kernel_rfl) ?_
        have ED : Ext WB WB.drew := extA
        have hS2 : WB.drew.cell? ⟨bs, 1, none⟩ = some (.slice (some ⟨lb, lo, none⟩) l.length cap) ∧ WB.drew.cell? ⟨pb, 0, none⟩ = some (.int .i64 x) ∧ WB.drew.cell? ⟨pb, 1, none⟩ = some (.int .i64 y) ∧ WB.drew.cell? ⟨lb, lo + x * 2, none⟩ = some (.slice xa sx.length xc) ∧ WB.drew.cell? ⟨lb, lo + x * 2 + 1, none⟩ = some (.int .i64 wx) ∧ WB.drew.cell? ⟨lb, lo + y * 2, none⟩ = some (.slice ya sy.length yc) ∧ WB.drew.cell? ⟨lb, lo + y * 2 + 1, none⟩ = some (.int .i64 wy) := ⟨ED.cell hS0.1, ED.cell hS0.2.1, ED.cell hS0.2.2.1, ED.cell hS0.2.2.2.1, ED.cell hS0.2.2.2.2.1, ED.cell hS0.2.2.2.2.2.1, ED.cell hS0.2.2.2.2.2.2⟩
        have EE := EB.trans ED
        clear hS0
        generalize WB.drew = W2 at EE hS2 ⊢
        clear ED EB
        have z0 := cell_lt hS2.1
        have z1 := cell_lt hS2.2.1
        have z2 := cell_lt hS2.2.2.2.1
        dsimp only at z0 z1 z2
        have xl : (x : Int) < (l.length : Int) := by omega
        have yl : (y : Int) < (l.length : Int) := by omega
        ((refine eTk 0 ?_); (refine eTk 1 ?_); (refine eTk 2 ?_); (refine eTk 3 ?_); (refine eTk 4 ?_); (refine eTk 5 ?_); (refine eTk 7 ?_); (refine eTk 8 ?_); (refine eTk 9 ?_); (refine eTk 10 ?_); (refine eTk 11 ?_); (refine eTk 12 ?_))
        (refine wpAnyE_one (i := 6) (o := ?_) ?_ (by kernel_rfl) (fun K hK => ?_); rotate_left; (focus ((simp only [List.getElem?_toArray, List.getElem?_cons_succ, List.getElem?_cons_zero]; exact rfl))); go_simp; refine (HM1.out _ (HS.out.bits.ext (F2.trans EE)) (HXC.out.ext EE)).mono ?_; rintro e w8 ⟨rfl, hE⟩; go_wp2_with fail; refine hK.out _ _ ?_ (fun hHeld => ?_); rotate_left; clear hK K; (try simp only [Act.put, List.setIfInBounds_toArray, List.set_cons_zero, List.set_cons_succ]))
        rotate_left
        · exact ⟨hE.cell hS2.1, hE.cell hS2.2.1, hE.cell hS2.2.2.1, hE.cell hS2.2.2.2.1, hE.cell hS2.2.2.2.2.1, hE.cell hS2.2.2.2.2.2.1, hE.cell hS2.2.2.2.2.2.2⟩
        have hS3 : w8.cell? ⟨bs, 1, none⟩ = some (.slice (some ⟨lb, lo, none⟩) l.length cap) ∧ w8.cell? ⟨pb, 0, none⟩ = some (.int .i64 x) ∧ w8.cell? ⟨pb, 1, none⟩ = some (.int .i64 y) ∧ w8.cell? ⟨lb, lo + x * 2, none⟩ = some (.slice xa sx.length xc) ∧ w8.cell? ⟨lb, lo + x * 2 + 1, none⟩ = some (.int .i64 wx) ∧ w8.cell? ⟨lb, lo + y * 2, none⟩ = some (.slice ya sy.length yc) ∧ w8.cell? ⟨lb, lo + y * 2 + 1, none⟩ = some (.int .i64 wy) := by assumption
        have E2 := EE.trans hE
        (refine wpAnyE_one (i := 13) (o := ?_) ?_ (by kernel_rfl) (fun K hK => ?_); rotate_left; (focus ((simp only [List.getElem?_toArray, List.getElem?_cons_succ, List.getElem?_cons_zero]; exact rfl))); go_simp; refine (HM2.out _ (HS.out.bits.ext (F2.trans E2)) (HYC.out.ext E2)).mono ?_; rintro e w9 ⟨rfl, hE9⟩; go_wp2_with fail; refine hK.out _ _ ?_ (fun hHeld => ?_); rotate_left; clear hK K; (try simp only [Act.put, List.setIfInBounds_toArray, List.set_cons_zero, List.set_cons_succ]))
        rotate_left
        · exact ⟨hE9.cell hS3.1, hE9.cell hS3.2.1, hE9.cell hS3.2.2.1, hE9.cell hS3.2.2.2.1, hE9.cell hS3.2.2.2.2.1, hE9.cell hS3.2.2.2.2.2.1, hE9.cell hS3.2.2.2.2.2.2⟩
        have hS4 : w9.cell? ⟨bs, 1, none⟩ = some (.slice (some ⟨lb, lo, none⟩) l.length cap) ∧ w9.cell? ⟨pb, 0, none⟩ = some (.int .i64 x) ∧ w9.cell? ⟨pb, 1, none⟩ = some (.int .i64 y) ∧ w9.cell? ⟨lb, lo + x * 2, none⟩ = some (.slice xa sx.length xc) ∧ w9.cell? ⟨lb, lo + x * 2 + 1, none⟩ = some (.int .i64 wx) ∧ w9.cell? ⟨lb, lo + y * 2, none⟩ = some (.slice ya sy.length yc) ∧ w9.cell? ⟨lb, lo + y * 2 + 1, none⟩ = some (.int .i64 wy) := by assumption
        have hN := HN.out
        ((refine ePu 14 ?_); (refine ePu 15 ?_); (refine ePu 16 ?_))
        refine wpAnyE_done (by kernel_rfl) ?_ _
        have k1 := hS4.2.2.1
        have z3 := cell_lt k1
        dsimp only at z3
        have E9 := he.trans (E2.trans hE9)
        go_wp2
        refine ⟨⟨k + 1, y, by omega, by go_num, rfl, HG5.out, E9⟩, by simp [intOf]; omega⟩
      · have hk2 : ¬ ((0 : Int) < (k : Int)) := by omega
        go_wp2
        have EB : Ext wr (wr.alloc (.cells #[.int .i64 x, .int .i64 y] 85)) := extA
        have k0 : ((wr.alloc (.cells #[.int .i64 x, .int .i64 y] 85))).cell? ⟨wr.heap.size, 0, none⟩ = some (.int .i64 x) := by go_simp
        have k1 : ((wr.alloc (.cells #[.int .i64 x, .int .i64 y] 85))).cell? ⟨wr.heap.size, 1, none⟩ = some (.int .i64 y) := by go_simp
        have hS0 : ((wr.alloc (.cells #[.int .i64 x, .int .i64 y] 85))).cell? ⟨bs, 1, none⟩ = some (.slice (some ⟨lb, lo, none⟩) l.length cap) ∧ ((wr.alloc (.cells #[.int .i64 x, .int .i64 y] 85))).cell? ⟨wr.heap.size, 0, none⟩ = some (.int .i64 x) ∧ ((wr.alloc (.cells #[.int .i64 x, .int .i64 y] 85))).cell? ⟨wr.heap.size, 1, none⟩ = some (.int .i64 y) ∧ ((wr.alloc (.cells #[.int .i64 x, .int .i64 y] 85))).cell? ⟨lb, lo + x * 2, none⟩ = some (.slice xa sx.length xc) ∧ ((wr.alloc (.cells #[.int .i64 x, .int .i64 y] 85))).cell? ⟨lb, lo + x * 2 + 1, none⟩ = some (.int .i64 wx) ∧ ((wr.alloc (.cells #[.int .i64 x, .int .i64 y] 85))).cell? ⟨lb, lo + y * 2, none⟩ = some (.slice ya sy.length yc) ∧ ((wr.alloc (.cells #[.int .i64 x, .int .i64 y] 85))).cell? ⟨lb, lo + y * 2 + 1, none⟩ = some (.int .i64 wy) := ⟨EB.cell c1, k0, k1, EB.cell q0, EB.cell q2, EB.cell r0, EB.cell r2⟩
        obtain ⟨pb, hpb⟩ : ∃ pb, pb = wr.heap.size := ⟨_, rfl⟩
        rw [← hpb] at hS0 ⊢
        clear hpb c0 c1 p0 p1 q0 q2 r0 r2 k0 k1 z0 z1 z2
        generalize (wr.alloc (.cells #[.int .i64 x, .int .i64 y] 85)) = WB at EB hS0 ⊢
        refine wp_region_heldE 99 (fun w' => w'.cell? ⟨bs, 1, none⟩ = some (.slice (some ⟨lb, lo, none⟩) l.length cap) ∧ w'.cell? ⟨pb, 0, none⟩ = some (.int .i64 x) ∧ w'.cell? ⟨pb, 1, none⟩ = some (.int .i64 y) ∧ w'.cell? ⟨lb, lo + x * 2, none⟩ = some (.slice xa sx.length xc) ∧ w'.cell? ⟨lb, lo + x * 2 + 1, none⟩ = some (.int .i64 wx) ∧ w'.cell? ⟨lb, lo + y * 2, none⟩ = some (.slice ya sy.length yc) ∧ w'.cell? ⟨lb, lo + y * 2 + 1, none⟩ = some (.int .i64 wy)) (by kernel_rfl) ?_
        have ED : Ext WB WB.drew := extA
        have hS2 : WB.drew.cell? ⟨bs, 1, none⟩ = some (.slice (some ⟨lb, lo, none⟩) l.length cap) ∧ WB.drew.cell? ⟨pb, 0, none⟩ = some (.int .i64 x) ∧ WB.drew.cell? ⟨pb, 1, none⟩ = some (.int .i64 y) ∧ WB.drew.cell? ⟨lb, lo + x * 2, none⟩ = some (.slice xa sx.length xc) ∧ WB.drew.cell? ⟨lb, lo + x * 2 + 1, none⟩ = some (.int .i64 wx) ∧ WB.drew.cell? ⟨lb, lo + y * 2, none⟩ = some (.slice ya sy.length yc) ∧ WB.drew.cell? ⟨lb, lo + y * 2 + 1, none⟩ = some (.int .i64 wy) := ⟨ED.cell hS0.1, ED.cell hS0.2.1, ED.cell hS0.2.2.1, ED.cell hS0.2.2.2.1, ED.cell hS0.2.2.2.2.1, ED.cell hS0.2.2.2.2.2.1, ED.cell hS0.2.2.2.2.2.2⟩
        have EE := EB.trans ED
        clear hS0
        generalize WB.drew = W2 at EE hS2 ⊢
        clear ED EB
        have z0 := cell_lt hS2.1
        have z1 := cell_lt hS2.2.1
        have z2 := cell_lt hS2.2.2.2.1
        dsimp only at z0 z1 z2
        have xl : (x : Int) < (l.length : Int) := by omega
        have yl : (y : Int) < (l.length : Int) := by omega
        ((refine eTk 0 ?_); (refine eTk 1 ?_); (refine eTk 2 ?_); (refine eTk 3 ?_); (refine eTk 4 ?_); (refine eTk 5 ?_); (refine eTk 7 ?_); (refine eTk 8 ?_); (refine eTk 9 ?_); (refine eTk 10 ?_); (refine eTk 11 ?_); (refine eTk 12 ?_))
        (refine wpAnyE_one (i := 6) (o := ?_) ?_ (by kernel_rfl) (fun K hK => ?_); rotate_left; (focus ((simp only [List.getElem?_toArray, List.getElem?_cons_succ, List.getElem?_cons_zero]; exact rfl))); go_simp; refine (HM1.out _ (HS.out.bits.ext (F2.trans EE)) (HXC.out.ext EE)).mono ?_; rintro e w8 ⟨rfl, hE⟩; go_wp2_with fail; refine hK.out _ _ ?_ (fun hHeld => ?_); rotate_left; clear hK K; (try simp only [Act.put, List.setIfInBounds_toArray, List.set_cons_zero, List.set_cons_succ]))
        rotate_left
        · exact ⟨hE.cell hS2.1, hE.cell hS2.2.1, hE.cell hS2.2.2.1, hE.cell hS2.2.2.2.1, hE.cell hS2.2.2.2.2.1, hE.cell hS2.2.2.2.2.2.1, hE.cell hS2.2.2.2.2.2.2⟩
        have hS3 : w8.cell? ⟨bs, 1, none⟩ = some (.slice (some ⟨lb, lo, none⟩) l.length cap) ∧ w8.cell? ⟨pb, 0, none⟩ = some (.int .i64 x) ∧ w8.cell? ⟨pb, 1, none⟩ = some (.int .i64 y) ∧ w8.cell? ⟨lb, lo + x * 2, none⟩ = some (.slice xa sx.length xc) ∧ w8.cell? ⟨lb, lo + x * 2 + 1, none⟩ = some (.int .i64 wx) ∧ w8.cell? ⟨lb, lo + y * 2, none⟩ = some (.slice ya sy.length yc) ∧ w8.cell? ⟨lb, lo + y * 2 + 1, none⟩ = some (.int .i64 wy) := by assumption
        have E2 := EE.trans hE
        (refine wpAnyE_one (i := 13) (o := ?_) ?_ (by kernel_rfl) (fun K hK => ?_); rotate_left; (focus ((simp only [List.getElem?_toArray, List.getElem?_cons_succ, List.getElem?_cons_zero]; exact rfl))); go_simp; refine (HM2.out _ (HS.out.bits.ext (F2.trans E2)) (HYC.out.ext E2)).mono ?_; rintro e w9 ⟨rfl, hE9⟩; go_wp2_with fail; refine hK.out _ _ ?_ (fun hHeld => ?_); rotate_left; clear hK K; (try simp only [Act.put, List.setIfInBounds_toArray, List.set_cons_zero, List.set_cons_succ]))
        rotate_left
        · exact ⟨hE9.cell hS3.1, hE9.cell hS3.2.1, hE9.cell hS3.2.2.1, hE9.cell hS3.2.2.2.1, hE9.cell hS3.2.2.2.2.1, hE9.cell hS3.2.2.2.2.2.1, hE9.cell hS3.2.2.2.2.2.2⟩
        have hS4 : w9.cell? ⟨bs, 1, none⟩ = some (.slice (some ⟨lb, lo, none⟩) l.length cap) ∧ w9.cell? ⟨pb, 0, none⟩ = some (.int .i64 x) ∧ w9.cell? ⟨pb, 1, none⟩ = some (.int .i64 y) ∧ w9.cell? ⟨lb, lo + x * 2, none⟩ = some (.slice xa sx.length xc) ∧ w9.cell? ⟨lb, lo + x * 2 + 1, none⟩ = some (.int .i64 wx) ∧ w9.cell? ⟨lb, lo + y * 2, none⟩ = some (.slice ya sy.length yc) ∧ w9.cell? ⟨lb, lo + y * 2 + 1, none⟩ = some (.int .i64 wy) := by assumption
        have hN := HN.out
        ((refine ePu 14 ?_); (refine ePu 15 ?_); (refine ePu 16 ?_))
        refine wpAnyE_done (by kernel_rfl) ?_ _
        have k1 := hS4.2.2.1
        have z3 := cell_lt k1
        dsimp only at z3
        have E9 := he.trans (E2.trans hE9)
        go_wp2
        refine ⟨⟨k + 1, y, by omega, by go_num, rfl, HG5.out, E9⟩, by simp [intOf]; omega⟩
    · have hke : k = ps.length := by omega
      subst hke
      have u1 : IntKind.i64.wrap ((ps.length : Int) + 1) = ((ps.length + 1 : Nat) : Int) := by rw [IntWalk.i64_in _ (by omega)]; omega
      go_wp2
      go_ret2
      exact ⟨rfl, F2⟩
end Go.Proofs.YtdolibeceijnnaaDoor
namespace Go.Proofs.YtdolibeceijnnaaDoor
open Go.RowKit
open Go.Maps
theorem renE_inj {t : List Int} {n : Int} (ht : renE t n = 0) : (t.length : Int) = n ∧ (∀ k, k < t.length → 0 ≤ t.getD k 0 ∧ t.getD k 0 < n) ∧ ∀ a b, In n a → In n b → listFn t a = listFn t b → a = b := by
  unfold renE at ht
  by_cases hl : (t.length : Int) ≠ n
  · rw [if_pos hl] at ht; cases ht
  rw [if_neg hl] at ht
  have hl : (t.length : Int) = n := by omega
  obtain ⟨h1, h2, _⟩ := renGo_zero t [] ht
  refine ⟨hl, fun k hk => h1 _ (by rw [List.getD_eq_getElem?_getD, List.getElem?_eq_getElem hk]; exact List.getElem_mem hk), fun a b ha hb e => ?_⟩
  obtain ⟨i, rfl⟩ := Int.eq_ofNat_of_zero_le ha.1
  obtain ⟨j, rfl⟩ := Int.eq_ofNat_of_zero_le hb.1
  have hi : i < t.length := by have := ha.2; omega
  have hj : j < t.length := by have := hb.2; omega
  rw [listFn_at, listFn_at, List.getD_eq_getElem?_getD, List.getD_eq_getElem?_getD, List.getElem?_eq_getElem hi, List.getElem?_eq_getElem hj] at e
  have e : t[i] = t[j] := e
  have hp := List.pairwise_iff_getElem.1 h2
  rcases Nat.lt_trichotomy i j with h | h | h
  · exact absurd e (hp i j hi hj h)
  · rw [h]
  · exact absurd e.symm (hp j i hj hi h)
theorem renOk_list {t : List Int} {n : Int} {l : List Stp} (ht : renE t n = 0) (hf : Fine n l) (hn : n ≤ 6) : RenOk (listFn t) l := by
  obtain ⟨h1, h2, h3⟩ := renE_inj ht
  refine renOk_inj hf (fun a b ha hb e => h3 a b ha hb e) (fun a ha => ?_)
  obtain ⟨k, rfl⟩ := Int.eq_ofNat_of_zero_le ha.1
  have := h2 k (by omega)
  rw [listFn_at]
  omega
def rnmE (s : Sq) (t : List Int) : Int := if ckSeq s ≠ 0 then ckSeq s else renE t s.1
set_option maxHeartbeats 8000000 in
set_option maxRecDepth 100000 in
theorem Rename_any (n : Int) (l : List Stp) (a : Option Addr) (cap : Nat) (t : List Int) (ta : Option Addr) (tc : Nat) (w : World) (hl : l.length ≤ maxLen) (hc : CellsP w a l) (htl : t.length ≤ tc) (htm : tc ≤ maxLen) (hct : CellsI w ta t) :
    Calls Tryd.prog 15 #[.agg #[.int .i64 n, .slice a l.length cap], .slice ta t.length tc] w (SeqErr (if rnmE (n, l) t = 0 then ren (listFn t) (n, l) else sq0) (rnmE (n, l) t) w) := by
  have HC := Lib.hid hc
  have HL := Lib.hid hl
  have HT := Lib.hid hct
  obtain ⟨er, her⟩ : ∃ er, er = rnmE (n, l) t := ⟨_, rfl⟩
  obtain ⟨s, hs⟩ : ∃ s, s = if er = 0 then ren (listFn t) (n, l) else sq0 := ⟨_, rfl⟩
  obtain ⟨ck, hck⟩ : ∃ ck, ck = ckSeq (n, l) := ⟨_, rfl⟩
  rw [← her, ← hs]
  replace her : er = if ck ≠ 0 then ck else renE t n := by rw [her, hck]; rfl
  have HER := Lib.hid her
  have HS := Lib.hid hs
  have HCK := Lib.hid hck
  unfold maxLen at hl htm
  have hzs : ∀ w, (zeroValue 24).run Tryd.prog w = .ok (.agg #[.int .i64 0, .slice none 0 0]) w := fun _ => by kernel_rfl
  clear hc her hs hck hct
  go_enter Tryd.func15, Tryd.ntmps15
  go_wp2_with fail
  have E1 : Ext w ((w.alloc (.cells #[.int .i64 n, .slice a l.length cap] 24)).alloc (.cells #[.int .i64 0, .slice none 0 0] 24)) := extA
  have c0 : (((w.alloc (.cells #[.int .i64 n, .slice a l.length cap] 24)).alloc (.cells #[.int .i64 0, .slice none 0 0] 24))).cell? ⟨w.heap.size, 0, none⟩ = some (.int .i64 n) := by go_simp
  have c1 : (((w.alloc (.cells #[.int .i64 n, .slice a l.length cap] 24)).alloc (.cells #[.int .i64 0, .slice none 0 0] 24))).cell? ⟨w.heap.size, 1, none⟩ = some (.slice a l.length cap) := by go_simp
  have c2 : (((w.alloc (.cells #[.int .i64 n, .slice a l.length cap] 24)).alloc (.cells #[.int .i64 0, .slice none 0 0] 24))).cell? ⟨w.heap.size + 1, 0, none⟩ = some (.int .i64 0) := by go_simp
  have c3 : (((w.alloc (.cells #[.int .i64 n, .slice a l.length cap] 24)).alloc (.cells #[.int .i64 0, .slice none 0 0] 24))).cell? ⟨w.heap.size + 1, 1, none⟩ = some (.slice none 0 0) := by go_simp
  have d2 : (((w.alloc (.cells #[.int .i64 n, .slice a l.length cap] 24)).alloc (.cells #[.int .i64 0, .slice none 0 0] 24))).frozen? ⟨w.heap.size + 1, 0, none⟩ = false := by go_simp
  have d3 : (((w.alloc (.cells #[.int .i64 n, .slice a l.length cap] 24)).alloc (.cells #[.int .i64 0, .slice none 0 0] 24))).frozen? ⟨w.heap.size + 1, 1, none⟩ = false := by go_simp
  generalize ((w.alloc (.cells #[.int .i64 n, .slice a l.length cap] 24)).alloc (.cells #[.int .i64 0, .slice none 0 0] 24)) = W at E1 c0 c1 c2 c3 d2 d3 ⊢
  refine (Check_any n l a cap _ HL.out (HC.out.ext E1)).mono ?_
  rintro e w1 ⟨rfl, hE⟩
  rw [← HCK.out]
  have E2 := E1.trans hE
  have d2 := (Below.frozen (p := ⟨w.heap.size + 1, 0, none⟩) hE (cell_lt c2)).trans d2
  have d3 := (Below.frozen (p := ⟨w.heap.size + 1, 1, none⟩) hE (cell_lt c3)).trans d3
  have c0 := (hE).cell c0
  have c1 := (hE).cell c1
  have c2 := (hE).cell c2
  have c3 := (hE).cell c3
  clear hE
  by_cases h0 : ck = 0
  · subst h0
    have hck := HCK.out.symm
    obtain ⟨hN1, hN6, hl0, hl64, hwk, _, _⟩ := ckSeq_zero hck
    have HFI := Lib.hid (ckWalk_fine hwk)
    have her := HER.out
    rw [if_neg (by decide)] at her
    clear hck hwk HER
    by_cases hn : (t.length : Int) = n
    · subst hn
      have her2 : renGo (t.length : Int) [] t = er := by rw [her]; unfold renE; rw [if_neg (by simp)]
      have HR := Lib.hid her2
      have HRE := Lib.hid her
      have hnn : ((t.length : Int) != (t.length : Int)) = false := by simp
      clear her her2
      go_wp2
      go_loopw [23] (fun i wr => ∃ k : Nat, k ≤ t.length ∧ i = .int .i64 k ∧ Hid (renGo (t.length : Int) (t.take k) (t.drop k) = er) ∧ Ext w1 wr) (fun i _ => t.length - (intOf i).toNat)
      case atStart => exact ⟨0, Nat.zero_le _, rfl, HR, Ext.refl _⟩
      case round =>
        obtain ⟨k, hk, rfl, hz, he⟩ := hrel
        have E3 := E2.trans he
        have d2 := (Below.frozen (p := ⟨w.heap.size + 1, 0, none⟩) he (cell_lt c2)).trans d2
        have d3 := (Below.frozen (p := ⟨w.heap.size + 1, 1, none⟩) he (cell_lt c3)).trans d3
        have c0 := (he).cell c0
        have c1 := (he).cell c1
        have c2 := (he).cell c2
        have c3 := (he).cell c3
        by_cases hlt : k < t.length
        · obtain ⟨b, off, rfl, e1⟩ := HT.out k hlt
          have e1 := (E2.trans he).cell e1
          have HZ := Lib.hid (renGo_drop (t.length : Int) t k hlt _ hz.out)
          have HTK : Hid (CellsI wr (some ⟨b, off, none⟩) (t.take k)) := (HT.out.ext E3).take k
          clear hz
          generalize t.getD k 0 = x at e1 HZ
          have z1 := cell_lt e1
          have z0 := cell_lt c0
          dsimp only at z1 z0
          by_cases hb : x < 0 ∨ (t.length : Int) ≤ x
          · have hee := HZ.out.1 hb
            have hs := HS.out
            rw [hee, if_neg (by decide)] at hs
            subst hee
            subst hs
            have EF : Ext w ((wr.setCell ⟨w.heap.size + 1, 0, none⟩ (.int .i64 0)).setCell ⟨w.heap.size + 1, 1, none⟩ (.slice none 0 0)) := (E3.set (by omega) _).set (by omega) _
            clear HZ HRE HS HR
            by_cases h2 : x < 0
            · go_wp2
              exact bodyPost_ret (v := .tuple #[.agg #[.int .i64 0, .slice none 0 0], .int .i64 2]) (by rw [results_cell_tmp1 rfl]; go_simp) rfl ⟨_, rfl, seqV_zero _, EF⟩
            · have h3 : (t.length : Int) ≤ x := by omega
              go_wp2
              exact bodyPost_ret (v := .tuple #[.agg #[.int .i64 0, .slice none 0 0], .int .i64 2]) (by rw [results_cell_tmp1 rfl]; go_simp) rfl ⟨_, rfl, seqV_zero _, EF⟩
          · have HZ2 := Lib.hid (HZ.out.2 hb)
            have h2 : ¬ x < 0 := by omega
            have h3 : ¬ (t.length : Int) ≤ x := by omega
            have hkc : k ≤ tc := by omega
            obtain ⟨T, hT⟩ : ∃ T, T = t.take k := ⟨_, rfl⟩
            have hTl : T.length = k := by rw [hT, List.length_take]; omega
            rw [← hT] at HTK HZ2
            have HPL := Lib.hid (ContainsI_any T x (some ⟨b, off, none⟩) tc wr (by unfold maxLen; omega) HTK.out)
            rw [hTl] at HPL
            have HTL := Lib.hid hTl
            clear hT hTl HZ hb
            go_wp2_with fail
            refine HPL.out.mono ?_
            rintro e w5 ⟨rfl, hE⟩
            have E5 := he.trans hE
            have E6 := E3.trans hE
            have d2 := (Below.frozen (p := ⟨w.heap.size + 1, 0, none⟩) hE (cell_lt c2)).trans d2
            have d3 := (Below.frozen (p := ⟨w.heap.size + 1, 1, none⟩) hE (cell_lt c3)).trans d3
            have c0 := (hE).cell c0
            have c1 := (hE).cell c1
            have c2 := (hE).cell c2
            have c3 := (hE).cell c3
            clear hE HPL
            cases hm : mem1 T x
            · have HZ3 := Lib.hid (HZ2.out.2 hm)
              clear HZ2 hm
              go_wp2
              refine ⟨⟨k + 1, by omega, by go_num, HZ3, E5⟩, by simp [intOf]; omega⟩
            · have hee := HZ2.out.1 hm
              have hs := HS.out
              rw [hee, if_neg (by decide)] at hs
              subst hee
              subst hs
              have EF : Ext w ((w5.setCell ⟨w.heap.size + 1, 0, none⟩ (.int .i64 0)).setCell ⟨w.heap.size + 1, 1, none⟩ (.slice none 0 0)) := (E6.set (by omega) _).set (by omega) _
              clear HZ2 hm HRE HS HR
              go_wp2
              exact bodyPost_ret (v := .tuple #[.agg #[.int .i64 0, .slice none 0 0], .int .i64 7]) (by rw [results_cell_tmp1 rfl]; go_simp) rfl ⟨_, rfl, seqV_zero _, EF⟩
        · have hz2 := hz.out
          rw [drop_end t (k := k) (by omega)] at hz2
          have hz3 : (0 : Int) = er := by rw [← hz2]; rfl
          subst hz3
          have hs := HS.out
          rw [if_pos rfl] at hs
          have HSS := Lib.hid hs
          have HRZ := Lib.hid HRE.out.symm
          clear hz hz2 hs HS HR HRE
          go_wp2
          refine wp_region_heldE 4 (fun w' => w'.cell? ⟨w.heap.size, 0, none⟩ = some (.int .i64 (t.length : Int)) ∧ w'.cell? ⟨w.heap.size, 1, none⟩ = some (.slice a l.length cap)) (by kernel_rfl) ?_
          have ED : Ext wr wr.drew := extA
          have d2 := (Below.frozen (p := ⟨w.heap.size + 1, 0, none⟩) ED (cell_lt c2)).trans d2
          have d3 := (Below.frozen (p := ⟨w.heap.size + 1, 1, none⟩) ED (cell_lt c3)).trans d3
          have c0 := (ED).cell c0
          have c1 := (ED).cell c1
          have c2 := (ED).cell c2
          have c3 := (ED).cell c3
          have E8 := E3.trans ED
          generalize wr.drew = W8 at E8 c0 c1 c2 c3 d2 d3 ⊢
          have hS : W8.cell? ⟨w.heap.size, 0, none⟩ = some (.int .i64 (t.length : Int)) ∧ W8.cell? ⟨w.heap.size, 1, none⟩ = some (.slice a l.length cap) := ⟨c0, c1⟩
          have hc2 := c2
          have hc3 := c3
          have HLE := Lib.hid (letters_any t ta tc W8 (by omega) (HT.out.ext E8) (fun k hk => by have := (renE_inj HRZ.out).2.1 k hk; omega))
          ((refine eTk 0 ?_)); (refine ePu 1 ?_)
          (refine wpAnyE_one (i := 2) (o := ?_) ?_ (by kernel_rfl) (fun K hK => ?_); rotate_left; (focus ((simp only [List.getElem?_toArray, List.getElem?_cons_succ, List.getElem?_cons_zero]; exact rfl))); go_simp; refine HLE.out.mono ?_; rintro e w9 ⟨mb, rfl, hma, hmz, hE⟩; have HMA := Lib.hid hma; clear hma; go_wp2_with fail; refine hK.out _ _ ?_ (fun hHeld => ?_); rotate_left; clear hK K; (try simp only [Act.put, List.setIfInBounds_toArray, List.set_cons_zero, List.set_cons_succ]))
          rotate_left
          · exact ⟨hE.cell hS.1, hE.cell hS.2⟩
          clear hHeld HLE
          have c2 := hE.cell c2
          have c3 := hE.cell c3
          have HRN := Lib.hid (renamed_own (t.length : Int) l a cap mb t.length (listFn t) w9 (by omega) (renOk_list HRZ.out HFI.out hN6) (HC.out.ext (E8.trans hE)) (by omega) HMA.out)
          obtain ⟨P, hP⟩ : ∃ P, P = l.map (renStep (listFn t)) := ⟨_, rfl⟩
          have hren : ren (listFn t) ((t.length : Int), l) = ((t.length : Int), P) := by rw [hP]; rfl
          rw [hren] at HRN HSS
          clear hP hren
          (refine wpAnyE_one (i := 3) (o := ?_) ?_ (by kernel_rfl) (fun K hK => ?_); rotate_left; (focus ((simp only [List.getElem?_toArray, List.getElem?_cons_succ, List.getElem?_cons_zero]; exact rfl))); go_simp; refine HRN.out.mono ?_; rintro e w10 ⟨o, ov, ho, rfl, hO, hob, hE2⟩; dsimp only at hO; have HO := Lib.hid hO; have HOB := Lib.hid hob; obtain ⟨ua, uc, rfl, _, _⟩ := hO.reads; clear hO hob; go_wp2_with fail; refine hK.out _ _ ?_ (fun hHeld => ?_); rotate_left; clear hK K; (try simp only [Act.put, List.setIfInBounds_toArray, List.set_cons_zero, List.set_cons_succ]))
          rotate_left
          · exact ⟨hE2.cell (hE.cell hS.1), hE2.cell (hE.cell hS.2)⟩
          clear hHeld HRN
          have z8 : w.heap.size + 1 < W8.heap.size := cell_lt hc2
          have z10 := hE.size
          have d2 := (Below.frozen (p := ⟨w.heap.size + 1, 0, none⟩) (hE.trans hE2) (cell_lt hc2)).trans d2
          have d3 := (Below.frozen (p := ⟨w.heap.size + 1, 1, none⟩) (hE.trans hE2) (cell_lt hc3)).trans d3
          have c2 := hE2.cell c2
          have c3 := hE2.cell c3
          have E10 := (E8.trans hE).trans hE2
          clear hE hE2
          (refine wpAnyE_free (i := 4) (o := ?_) ?_ (by kernel_rfl) (by kernel_rfl) (fun K hK => ?_); rotate_left; (focus ((simp only [List.getElem?_toArray, List.getElem?_cons_succ, List.getElem?_cons_zero]; exact rfl))); go_simp; refine hK.out _ _ ?_; clear hK K; (try simp only [Act.put, List.setIfInBounds_toArray, List.set_cons_zero, List.set_cons_succ]))
          (refine ePu 5 ?_)
          refine wpAnyE_done (by kernel_rfl) ?_ _
          have EF : Ext w ((w10.setCell ⟨w.heap.size + 1, 0, none⟩ (.int .i64 (t.length : Int))).setCell ⟨w.heap.size + 1, 1, none⟩ (.slice ua P.length uc)) := (E10.set (by omega) _).set (by omega) _
          have HSV : Hid (SeqV ((w10.setCell ⟨w.heap.size + 1, 0, none⟩ (.int .i64 (t.length : Int))).setCell ⟨w.heap.size + 1, 1, none⟩ (.slice ua P.length uc)) (.agg #[.int .i64 (t.length : Int), .slice ua P.length uc]) s) := by
            have cc : Chg (fun b => b ≤ o) w10 ((w10.setCell ⟨w.heap.size + 1, 0, none⟩ (.int .i64 (t.length : Int))).setCell ⟨w.heap.size + 1, 1, none⟩ (.slice ua P.length uc)) :=
              (Chg.setCell (B := fun b => b ≤ o) ⟨w.heap.size + 1, 0, none⟩ _ (by show w.heap.size + 1 ≤ o; omega)).trans (Chg.setCell (B := fun b => b ≤ o) ⟨w.heap.size + 1, 1, none⟩ _ (by show w.heap.size + 1 ≤ o; omega))
            have h1 := (HO.out.chg cc (fun b' hb' e => by have := HOB.out b' hb'; omega)).reads
            show SeqV _ _ _
            rw [HSS.out]
            exact ⟨_, rfl, h1⟩
          go_wp2
          exact bodyPost_ret (v := .tuple #[.agg #[.int .i64 (t.length : Int), .slice ua P.length uc], .int .i64 0]) (by rw [results_cell_tmp1 rfl]; go_simp) rfl ⟨_, rfl, HSV.out, EF⟩
    · have hnn : ((t.length : Int) != n) = true := by simpa using hn
      have hre : er = 8 := by rw [her]; unfold renE; rw [if_pos hn]
      have hs := HS.out
      rw [hre, if_neg (by decide)] at hs
      subst hre
      subst hs
      have EF : Ext w ((w1.setCell ⟨w.heap.size + 1, 0, none⟩ (.int .i64 0)).setCell ⟨w.heap.size + 1, 1, none⟩ (.slice none 0 0)) := (E2.set (by omega) _).set (by omega) _
      clear hn HS her
      go_wp2
      exact bodyPost_ret (v := .tuple #[.agg #[.int .i64 0, .slice none 0 0], .int .i64 8]) (by rw [results_cell_tmp1 rfl]; go_simp) rfl ⟨_, rfl, seqV_zero _, EF⟩
  · have hn : (ck != 0) = true := by simp [h0]
    have hee := HER.out
    rw [if_pos h0] at hee
    subst hee
    have hs := HS.out
    rw [if_neg h0] at hs
    subst hs
    have EF : Ext w ((w1.setCell ⟨w.heap.size + 1, 0, none⟩ (.int .i64 0)).setCell ⟨w.heap.size + 1, 1, none⟩ (.slice none 0 0)) := (E2.set (by omega) _).set (by omega) _
    clear h0 HS HER HCK
    go_wp2
    exact bodyPost_ret (v := .tuple #[.agg #[.int .i64 0, .slice none 0 0], .int .i64 er]) (by rw [results_cell_tmp1 rfl]; go_simp) rfl ⟨_, rfl, seqV_zero _, EF⟩
end Go.Proofs.YtdolibeceijnnaaDoor
namespace Go.Proofs.YtdolibeceijnnaaDoor
open Go.RowKit
theorem SeqErr.at {s : Sq} {er : Int} {w : World} {e : Ending} {w' : World} (h : SeqErr s er w e w') : ∃ a cap, e = .returned (.tuple #[.agg #[.int .i64 s.1, .slice a s.2.length cap], .int .i64 er]) ∧ CellsP w' a s.2 ∧ Room a s.2.length cap ∧ Ext w w' := by
  obtain ⟨v, rfl, ⟨u, rfl, a, cap, rfl, hc, hm⟩, hE⟩ := h
  exact ⟨a, cap, rfl, hc, hm, hE⟩
structure Box (w : World) (b : Nat) (x : Int) (v : Value) : Prop where
  c0 : w.cell? ⟨b, 0, none⟩ = some (.int .i64 x)
  c1 : w.cell? ⟨b, 1, none⟩ = some v
  f0 : w.frozen? ⟨b, 0, none⟩ = false
  f1 : w.frozen? ⟨b, 1, none⟩ = false
  no : ∀ o, 2 ≤ o → w.cell? ⟨b, o, none⟩ = none
theorem Box.ext {w w' : World} {b : Nat} {x : Int} {v : Value} (h : Box w b x v) (k : Ext w w') : Box w' b x v :=
  ⟨k.cell h.c0, k.cell h.c1, (Below.frozen (p := ⟨b, 0, none⟩) k (cell_lt h.c0)).trans h.f0, (Below.frozen (p := ⟨b, 1, none⟩) k (cell_lt h.c1)).trans h.f1, fun o ho => (World.cell?_of_block (Below.block k b (cell_lt h.c0))).trans (h.no o ho)⟩
theorem Box.new (w : World) (x : Int) (a : Option Addr) (n c : Nat) : Box (w.alloc (.cells #[.int .i64 x, .slice a n c] 24)) w.heap.size x (.slice a n c) := by
  refine ⟨by go_simp, by go_simp, by go_simp, by go_simp, fun o ho => ?_⟩
  rw [World.cell?_alloc_new]
  exact Array.getElem?_eq_none (by simpa using ho)
theorem Box.set {w : World} {b : Nat} {x : Int} {v : Value} (h : Box w b x v) (y : Int) (u : Value) : Box ((w.setCell ⟨b, 0, none⟩ (.int .i64 y)).setCell ⟨b, 1, none⟩ u) b y u := by
  have e0 : (w.setCell ⟨b, 0, none⟩ (.int .i64 y)).cell? ⟨b, 0, none⟩ = some (.int .i64 y) := World.cell?_setCell_same _ _ _ h.c0
  have e1 : (w.setCell ⟨b, 0, none⟩ (.int .i64 y)).cell? ⟨b, 1, none⟩ = some v := by
    rw [World.cell?_setCell_other _ _ _ _ (fun h => by simp only [Addr.mk.injEq] at h; omega)]; exact h.c1
  refine ⟨?_, World.cell?_setCell_same _ _ _ e1, by rw [World.frozen?_setCell, World.frozen?_setCell]; exact h.f0, by rw [World.frozen?_setCell, World.frozen?_setCell]; exact h.f1, fun o ho => ?_⟩
  · rw [World.cell?_setCell_other _ _ _ _ (fun h => by simp only [Addr.mk.injEq] at h; omega)]; exact e0
  · rw [World.cell?_setCell_other _ _ _ _ (fun h => by simp only [Addr.mk.injEq] at h; omega), World.cell?_setCell_other _ _ _ _ (fun h => by simp only [Addr.mk.injEq] at h; omega)]; exact h.no o ho
theorem set2_block (w : World) (b : Nat) (u v : Value) : ∀ k, k < w.heap.size → k ≠ b → ((w.setCell ⟨b, 0, none⟩ u).setCell ⟨b, 1, none⟩ v).heap[k]? = w.heap[k]? := fun _k _ hk =>
  (Below.heap_setCell _ _ _ _ (fun e => hk e)).trans (Below.heap_setCell _ _ _ _ (fun e => hk e))
theorem Box.other {w : World} {b c : Nat} {x : Int} {v : Value} (h : Box w c x v) (hne : c ≠ b) (u t : Value) : Box ((w.setCell ⟨b, 0, none⟩ u).setCell ⟨b, 1, none⟩ t) c x v := by
  have e := set2_block w b u t c (cell_lt h.c0) hne
  exact ⟨(World.cell?_of_block e).trans h.c0, (World.cell?_of_block e).trans h.c1, (World.frozen?_of_block e).trans h.f0, (World.frozen?_of_block e).trans h.f1, fun o ho => (World.cell?_of_block e).trans (h.no o ho)⟩
end Go.Proofs.YtdolibeceijnnaaDoor
namespace Go.Proofs.YtdolibeceijnnaaDoor
open Go.RowKit
theorem bij_ex {t : List Int} {n : Int} (ht : renE t n = 0) : ∃ b, Bij (In n) n (listFn t) (listFn b) := by
  have hg : renGo n [] t = 0 ∧ (t.length : Int) = n := by
    unfold renE at ht
    split at ht
    · cases ht
    · rename_i h; exact ⟨ht, by simpa using h⟩
  obtain ⟨h1, h2, _⟩ := renGo_zero t [] hg.1
  refine ⟨(List.range t.length).map fun (v : Nat) => ((t.findIdx (fun x => x == (v : Int)) : Nat) : Int), bij_list ht fun k hk => ?_⟩
  have hm : t.getD k 0 = t[k] := by simp [List.getD, hk]
  have hr := h1 t[k] (List.getElem_mem hk)
  rw [hm]
  obtain ⟨v, hv⟩ := Int.eq_ofNat_of_zero_le hr.1
  have hvl : v < t.length := by omega
  rw [hv, Int.toNat_natCast, List.getD_eq_getElem?_getD, List.getElem?_map, List.getElem?_range hvl]
  show ((t.findIdx (fun x => x == (v : Int)) : Nat) : Int) = (k : Int)
  congr 1
  rw [List.findIdx_eq hk]
  refine ⟨by rw [hv]; simp, fun j hj => ?_⟩
  have hp := List.pairwise_iff_getElem.1 h2 j k (by omega) hk hj
  rw [beq_eq_false_iff_ne]
  intro e
  exact hp (e.trans hv.symm)
theorem prf_congr {f g : Nat → Stp} {n : Nat} (h : ∀ p q, p < n → q < n → apart (g p) (g q) = apart (f p) (f q)) : ∀ (ps : List (Nat × Nat)) (last : Nat), Prf f n last ps → Prf g n last ps := by
  intro ps
  induction ps with
  | nil => intro _ _; trivial
  | cons p r ih =>
    intro last hp
    obtain ⟨h1, h2, h3, h4, h5⟩ := hp
    exact ⟨h1, h2, h3, by rw [h _ _ (by omega) h3]; exact h4, ih _ h5⟩
theorem prf_len {f : Nat → Stp} {n : Nat} : ∀ (ps : List (Nat × Nat)) (last : Nat), Prf f n last ps → ps.length ≤ n := by
  have key : ∀ (ps : List (Nat × Nat)) (last : Nat), Prf f n last ps → ps.length = 0 ∨ ps.length + last < n := by
    intro ps
    induction ps with
    | nil => intro _ _; exact .inl rfl
    | cons p r ih =>
      intro last hp
      obtain ⟨h1, h2, h3, _, h5⟩ := hp
      right
      rw [List.length_cons]
      rcases ih _ h5 with h | h <;> omega
  intro ps last hp
  rcases key ps last hp with h | h <;> omega
theorem letters_plain {n : Int} {l : List Stp} {t : List Int} (hk : ckSeq (n, l) = 0) (ht : renE t n = 0) : rnmE (n, l) t = 0 ∧ ckSeq (n, l.map (renStep (listFn t))) = 0 ∧ okF (cyc (l.map (renStep (listFn t)))) = okF (cyc l) ∧ ∀ ps, Prf (lin l) l.length 0 ps → Prf (lin (l.map (renStep (listFn t)))) l.length 0 ps := by
  obtain ⟨b, hb⟩ := bij_ex ht
  have hr := ckSeq_right hk
  have hn6 := hr.act.2
  refine ⟨?_, ckSeq_ren hb hk, ren_okF hb hn6 hr.fine hr.len.1, fun ps hp => prf_congr (fun p q hp hq => ?_) ps 0 hp⟩
  · unfold rnmE
    rw [if_neg (by simp [hk])]
    exact ht
  · have e : ∀ p, p < l.length → lin (l.map (renStep (listFn t))) p = renStep (listFn t) (lin l p) ∧ lin l p ∈ l := fun p hp => by
      unfold lin
      refine ⟨by simp [List.getD, hp], getD_inn hp⟩
    rw [(e p hp).1, (e q hq).1, ren_apart hb hn6 (hr.fine _ (e p hp).2) (hr.fine _ (e q hq).2)]
set_option maxHeartbeats 16000000 in
set_option maxRecDepth 100000 in
theorem TopGroupsLetters_any (n : Int) (l : List Stp) (a : Option Addr) (ca : Nat) (t : List Int) (ta : Option Addr) (tc : Nat) (w : World) (hG : GBits w) (hc : CellsP w a l) (hr : Room a l.length ca) (ht : CellsI w ta t) (htl : t.length ≤ tc) (htm : tc ≤ maxLen) :
    Calls Tryd.prog 4 #[.agg #[.int .i64 n, .slice a l.length ca], .slice ta t.length tc] w fun e w' => e = .returned (.bool true) ∧ Ext w w' := by
  have HG := Lib.hid hG
  have HC := Lib.hid hc
  have HR := Lib.hid hr
  have HT := Lib.hid ht
  have HRN := Lib.hid (fun W h => RenamingR_any t n ta tc W (Nat.le_trans htl htm) htl htm h)
  have HNM := Lib.hid (fun W h1 h2 => Rename_any n l a ca t ta tc W HR.out h1 htl htm h2)
  clear hG hc hr ht htl htm
  go_enter Tryd.func4, Tryd.ntmps4
  go_wp2_with fail
  have E0 : Ext w (w.alloc (.cells #[.int .i64 n, .slice a l.length ca] 24)) := extA
  have a0 : ((w.alloc (.cells #[.int .i64 n, .slice a l.length ca] 24))).cell? ⟨w.heap.size, 0, none⟩ = some (.int .i64 n) := by go_simp
  have a1 : ((w.alloc (.cells #[.int .i64 n, .slice a l.length ca] 24))).cell? ⟨w.heap.size, 1, none⟩ = some (.slice a l.length ca) := by go_simp
  generalize (w.alloc (.cells #[.int .i64 n, .slice a l.length ca] 24)) = W at E0 a0 a1 ⊢
  refine (caseSmall_any n l a ca 10 _ (HC.out.ext E0) HR.out).mono ?_
  rintro e w1 ⟨rfl, hE⟩
  have F1 := E0.trans hE
  replace a0 := (hE).cell a0
  replace a1 := (hE).cell a1
  clear hE E0
  have HRA := Lib.hid (fun h => smallB_true (n := n) (l := l) (k := 10) h)
  generalize smallB n l 10 = fa at HRA ⊢
  obtain ⟨bs, hbs⟩ : ∃ bs, bs = w.heap.size := ⟨_, rfl⟩
  rw [← hbs] at a0 a1 ⊢
  clear hbs
  cases fa
  · go_wp2_with fail
    refine (caseGroups_any _ (HG.out.ext F1)).mono ?_
    rintro e w2 ⟨rfl, hE⟩
    go_wp2
    go_ret
    exact ⟨rfl, F1.trans hE⟩
  obtain ⟨hla, hka⟩ := HRA.out (by first | trivial | rfl)
  have hl0 := (ckSeq_right hka).len.1
  obtain ⟨er, her⟩ : ∃ er, er = renE t n := ⟨_, rfl⟩
  rw [← her] at HRN
  go_wp2_with fail
  refine (HRN.out _ (HT.out.ext F1)).mono ?_
  rintro e w2 ⟨rfl, hE⟩
  have F2 := F1.trans hE
  replace a0 := (hE).cell a0
  replace a1 := (hE).cell a1
  clear hE F1 HRN HRA
  by_cases her0 : er = 0
  · subst her0
    obtain ⟨p1, p2, p3, p4⟩ := letters_plain hka her.symm
    rw [p1, if_pos rfl] at HNM
    obtain ⟨T, hT⟩ : ∃ T, T = l.map (renStep (listFn t)) := ⟨_, rfl⟩
    have hTl : T.length = l.length := by rw [hT, List.length_map]
    have hsq : ren (listFn t) (n, l) = (n, T) := by rw [hT]; rfl
    rw [hsq] at HNM
    rw [← hT] at p2 p3 p4
    have HFA := Lib.hid (fun W hg h => Fewest_any n l a ca W hka hg h)
    have HFT := Lib.hid (fun xa xc W hg h => Fewest_any n T xa xc W p2 hg h)
    have HRA := Lib.hid (fun W hg h => Ring_any n l a ca W hka hg h)
    have HRT := Lib.hid (fun xa xc W hg h => Ring_any n T xa xc W p2 hg h)
    have HPA := Lib.hid (fun W hg h => Prove_any n l a ca W hka hg h HR.out)
    have HVT := Lib.hid (fun xa xc ps pa pc W hg h hp h1 h2 => Verify_any n T xa xc ps pa pc W p2 hg h hp h1 h2)
    have hL1 : longS (okF (cyc T)) T.length 0 = longS (okF (cyc l)) l.length 0 := by rw [p3, hTl]
    have hL2 : ringS (okF (cyc T)) T.length = ringS (okF (cyc l)) l.length := by rw [p3, hTl]
    rw [hL1] at HFT
    rw [hL2] at HRT
    clear hL1 hL2
    have hAl : (intsN (longS (okF (cyc l)) l.length 0)).length ≤ 10 := by rw [intsN_len]; exact Nat.le_trans (long_len (okF_her _) hl0) hla
    have hBl : (intsN (ringS (okF (cyc l)) l.length)).length ≤ maxLen := by
      have h1 := ring_len (okF_her (cyc l)) (cyc_per l) hl0
      have h2 := (min_pos (okF_her (cyc l)) hl0).2
      rw [intsN_len]
      unfold maxLen
      omega
    have hAL : (intsN (longS (okF (cyc l)) l.length 0)).length = (longS (okF (cyc l)) l.length 0).length := intsN_len _
    have HP4 := Lib.hid p4
    generalize intsN (longS (okF (cyc l)) l.length 0) = A at HFA HFT hAl hAL
    generalize (longS (okF (cyc l)) l.length 0).length = K at HPA hAL
    generalize intsN (ringS (okF (cyc l)) l.length) = B at HRA HRT hBl
    have hAm : A.length ≤ maxLen := by unfold maxLen; omega
    have HBM := Lib.hid hBl
    have HAM := Lib.hid hAm
    have HK := Lib.hid hAL
    have HTL := Lib.hid hTl
    clear p1 p2 p3 p4 hT hsq hka her hBl hAm hAL hTl
    go_wp2_with fail
    refine (HNM.out _ (HC.out.ext F2) (HT.out.ext F2)).mono ?_
    rintro e w3 h
    have h : SeqErr (n, T) 0 w2 e w3 := h
    obtain ⟨xa, xc, rfl, hf, hfl, hE⟩ := h.at
    dsimp only at hf hfl ⊢
    have XT := Lib.hid hf
    have XR := Lib.hid hfl
    have F3 := F2.trans hE
    replace a0 := (hE).cell a0
    replace a1 := (hE).cell a1
    have z4 := cell_lt a0
    dsimp only at z4
    clear hf hfl hE F2 h HNM HT
    go_wp2_with fail
    have E5 : Ext w3 (w3.alloc (.cells #[.int .i64 n, .slice xa T.length xc] 24)) := extA
    have BX := Lib.hid (Box.new w3 n xa T.length xc)
    replace XT := Lib.hid (XT.out.ext E5)
    have F4 := F3.trans E5
    replace a0 := (E5).cell a0
    replace a1 := (E5).cell a1
    obtain ⟨b2, hb2⟩ : ∃ b, b = w3.heap.size := ⟨_, rfl⟩
    rw [← hb2] at BX z4 ⊢
    clear hb2 E5 F3
    generalize (w3.alloc (.cells #[.int .i64 n, .slice xa T.length xc] 24)) = W4 at BX XT F4 a0 a1 ⊢
    refine (HFA.out _ (HG.out.ext F4) (HC.out.ext F4)).mono ?_
    rintro e w5 ⟨ra, rc, rfl, hi1, _, hE⟩
    have I1 := Lib.hid hi1
    replace BX := Lib.hid (BX.out.ext hE)
    replace XT := Lib.hid (XT.out.ext hE)
    have F5 := F4.trans hE
    replace a0 := (hE).cell a0
    replace a1 := (hE).cell a1
    have x0 := BX.out.c0
    have x1 := BX.out.c1
    clear hE F4 HFA hi1
    go_wp2_with fail
    refine (HFT.out xa xc _ (HG.out.ext F5) XT.out).mono ?_
    rintro e w6 ⟨rb, rd, rfl, hi2, _, hE⟩
    have I2 := Lib.hid hi2
    replace I1 := Lib.hid (I1.out.ext hE)
    replace BX := Lib.hid (BX.out.ext hE)
    replace XT := Lib.hid (XT.out.ext hE)
    have F6 := F5.trans hE
    replace a0 := (hE).cell a0
    replace a1 := (hE).cell a1
    have v0 : IntKind.i64.wrap 0 = 0 := rfl
    clear hE F5 HFT hi2 x0 x1
    go_wp2_with fail
    refine (aw_Equal A HAM.out ra rb rc rd _ I1.out I2.out).mono ?_
    rintro e w7 ⟨rfl, hE⟩
    replace BX := Lib.hid (BX.out.ext hE)
    replace XT := Lib.hid (XT.out.ext hE)
    have F7 := F6.trans hE
    replace a0 := (hE).cell a0
    replace a1 := (hE).cell a1
    clear hE F6 I1 I2
    go_wp2_with fail
    refine (HRA.out _ (HG.out.ext F7) (HC.out.ext F7)).mono ?_
    rintro e w8 ⟨sa, sc, rfl, hi3, _, hE⟩
    have I3 := Lib.hid hi3
    replace BX := Lib.hid (BX.out.ext hE)
    replace XT := Lib.hid (XT.out.ext hE)
    have F8 := F7.trans hE
    replace a0 := (hE).cell a0
    replace a1 := (hE).cell a1
    have x0 := BX.out.c0
    have x1 := BX.out.c1
    clear hE F7 HRA hi3
    go_wp2_with fail
    refine (HRT.out xa xc _ (HG.out.ext F8) XT.out).mono ?_
    rintro e w9 ⟨sb, sd, rfl, hi4, _, hE⟩
    have I4 := Lib.hid hi4
    replace I3 := Lib.hid (I3.out.ext hE)
    replace BX := Lib.hid (BX.out.ext hE)
    replace XT := Lib.hid (XT.out.ext hE)
    have F9 := F8.trans hE
    replace a0 := (hE).cell a0
    replace a1 := (hE).cell a1
    clear hE F8 HRT hi4 x0 x1
    go_wp2_with fail
    refine (HPA.out _ (HG.out.ext F9) (HC.out.ext F9)).mono ?_
    rintro e w10 ⟨v, ps, rfl, hps, hpn, hpf, hE⟩
    obtain ⟨pa, pc, rfl, hpc⟩ := hps.reads
    have PC := Lib.hid hpc
    replace I3 := Lib.hid (I3.out.ext hE)
    replace I4 := Lib.hid (I4.out.ext hE)
    replace BX := Lib.hid (BX.out.ext hE)
    replace XT := Lib.hid (XT.out.ext hE)
    have FA := F9.trans hE
    have x0 := BX.out.c0
    have x1 := BX.out.c1
    have PF := Lib.hid (HP4.out ps hpf)
    have hpl : ps.length ≤ l.length := prf_len ps 0 hpf
    have HPL := Lib.hid hpl
    have HPN := Lib.hid hpn
    clear hE F9 HPA hps hpn hpf hpc hpl a0 a1 z4
    go_wp2_with fail
    refine (HVT.out xa xc ps pa pc _ (HG.out.ext FA) XT.out PC.out (by rw [HTL.out]; exact HPL.out) (by rw [HTL.out]; exact PF.out)).mono ?_
    rintro e w11 ⟨rfl, hE⟩
    replace I3 := Lib.hid (I3.out.ext hE)
    replace I4 := Lib.hid (I4.out.ext hE)
    have FB := FA.trans hE
    have hkk : ps.length + 1 = A.length := by have h1 := HPN.out; have h2 := HK.out; omega
    rw [hkk]
    clear hE FA HVT x0 x1 hkk
    go_wp2_with fail
    refine (aw_Equal B HBM.out sa sb sc sd _ I3.out I4.out).mono ?_
    rintro e w12 ⟨rfl, hE⟩
    have FC := FB.trans hE
    go_wp2_with fail
    refine (caseGroups_any _ (HG.out.ext FC)).mono ?_
    rintro e w13 ⟨rfl, hE9⟩
    go_wp2
    go_ret
    exact ⟨rfl, FC.trans hE9⟩
  · have her1 : (er != 0) = true := by simp [her0]
    clear her0 her
    go_wp2_with fail
    refine (caseGroups_any _ (HG.out.ext F2)).mono ?_
    rintro e w3 ⟨rfl, hE⟩
    go_wp2
    go_ret
    exact ⟨rfl, F2.trans hE⟩
end Go.Proofs.YtdolibeceijnnaaDoor
