/- Steps of the proof: QOpen, GGiv, Grp7, QLaw, QAcc, QLJoi, GJoi. No conditions. -/
import Derived.ProofKit
import Derived.OpenShut
import Derived.Lib.SmallJoins
import Derived.Deep.Slices
import Derived.Test.YtdolibeceijnnaaDoorCards
import Derived.Test.YtdolibeceijnnaaDoorTie
import Derived.WalkKit
import Derived.Deep.DeepHandedRow
import Derived.Lib.LaidTab
import Derived.LaidSub
import Derived.MakeChecks
import Derived.Test.YtdolibeceijnnaaDoorZGJ1
import Derived.Test.YtdolibeceijnnaaDoorZGJ2
import Derived.Test.YtdolibeceijnnaaDoorZGJ3
import Derived.Test.YtdolibeceijnnaaDoorZGJ4
import Derived.Test.YtdolibeceijnnaaDoorZGJ5
import Derived.Test.YtdolibeceijnnaaDoorZGJ6
namespace Go.Proofs.YtdolibeceijnnaaDoor
open Go.RowKit Go.ChangeShapes Go.WideShapes Go.Joins Go.Deep
theorem list2 {α : Type} {l : List α} (h : l.length = 2) : ∃ a b, l = [a, b] := by
  match l, h with
  | [a, b], _ => exact ⟨a, b, rfl⟩
theorem laidOut : laidOutB Tryd.prog = true := by kernel_rfl
theorem cellsOfStk : Tryd.prog.cellsOf 67 = 2 := by kernel_rfl
theorem cellsOfStp : Tryd.prog.cellsOf 65 = 2 := by kernel_rfl
theorem cellsOfInt : Tryd.prog.cellsOf 3 = 1 := by kernel_rfl
theorem cellsOfBool : Tryd.prog.cellsOf 4 = 1 := by kernel_rfl
theorem cellsOfSlk : Tryd.prog.cellsOf 45 = 1 := by kernel_rfl
section
variable {H : Type} {enc : TypeId × Value → H} {w : World} {base : Nat} {spare : Nat → Bool} {held : Bool}
theorem open_stk {fuel : Nat} {cs : List Value} {x : DataW H × List MemPlace} (h : DataW.trod enc Tryd.prog w base spare held fuel 67 cs = some x) : ∃ y : Stk, cs = [.int .i64 y.1, .bool y.2] := by
  obtain ⟨y0, y1, n, _, hl, h0, h1⟩ := trod_struct2 Tryd.underlying67 h
  rw [cellsOfStk] at hl
  obtain ⟨a, b, rfl⟩ := list2 hl
  rw [cellsOfInt] at h0
  rw [cellsOfBool] at h1
  obtain ⟨i, e0, _, w0⟩ := DataW.trod_int Tryd.underlying3 h0
  obtain ⟨j, e1, _⟩ := DataW.trod_bool Tryd.underlying4 h1
  simp at e0 e1
  subst e0; subst e1
  exact ⟨(i, j), rfl⟩
theorem open_stks {a : Addr} {len : Nat} (h : ∀ i, i < len → ∃ cs' n x, w.cells? base (a.add (i * 2)) 2 = some cs' ∧ DataW.trod enc Tryd.prog w base spare held n 67 cs' = some x) : ∃ l : List Stk, l.length = len ∧ CellsK w (some a) l := by
  have key : ∀ i, i < len → ∃ y : Stk, w.cell? (a.add (i * 2)) = some (.int .i64 y.1) ∧ w.cell? ((a.add (i * 2)).add 1) = some (.bool y.2) := fun i hi => by
    obtain ⟨cs', n, x, h1, h2⟩ := h i hi
    obtain ⟨y, rfl⟩ := open_stk h2
    obtain ⟨_, _, hc⟩ := World.cells?_some h1
    have c0 := hc 0 (by omega)
    have c1 := hc 1 (by omega)
    refine ⟨y, ?_, c1⟩
    have e : (a.add (i * 2)).add 0 = a.add (i * 2) := by simp [Addr.add]
    rw [e] at c0
    exact c0
  obtain ⟨f, hf⟩ := choose_lt (α := Stk) key
  refine ⟨(List.range len).map f, by simp, fun i hi => ?_⟩
  have hi' : i < len := by simpa using hi
  obtain ⟨h1, h2⟩ := hf i hi'
  have hp : ((List.range len).map f).getD i stk0 = f i := by simp [List.getD, hi']
  rw [hp]
  obtain ⟨b, off, spot⟩ := a
  have hs : spot = none := by
    have h0 := World.cell?_spot (hf 0 (by omega)).1
    simpa [Addr.add] using h0
  subst hs
  rw [Addr.add_lit] at h1 h2
  rw [Addr.add_lit] at h2
  exact ⟨b, off, rfl, h1, h2⟩
theorem open_slk {fuel : Nat} {v : Value} {x : DataW H × List MemPlace} (h : DataW.trod enc Tryd.prog w base spare held fuel 45 [v] = some x) : ∃ l : List Stk, SliceK w v l := by
  rcases open_slice Tryd.underlying45 h with ⟨h1, _⟩ | ⟨a, len, cap, m, n, D, Pl, h1, hb, hl, hm, hmm, _, hx⟩
  · simp at h1
    exact ⟨[], none, 0, h1, fun i hi => by simp at hi, by simp⟩
  · simp at h1
    rw [cellsOfStk] at hx
    have hlm : len ≤ m := by rw [hmm]; split <;> omega
    obtain ⟨l, hll, hc⟩ := open_stks (enc := enc) (spare := spare) (held := held) (w := w) (base := base) (a := a) (len := len) (fun i hi => by
      obtain ⟨cs', h2, h3⟩ := hx i (by omega)
      exact ⟨cs', n, _, h2, h3⟩)
    exact ⟨l, some a, cap, by rw [h1, hll], hc, by rw [hll]; omega⟩
theorem open_stp {fuel : Nat} {cs : List Value} {x : DataW H × List MemPlace} (h : DataW.trod enc Tryd.prog w base spare held fuel 65 cs = some x) : ∃ (v : Value) (y : Stp), cs = [v, .int .i64 y.2] ∧ SliceK w v y.1 := by
  obtain ⟨y0, y1, n, _, hl, h0, h1⟩ := trod_struct2 Tryd.underlying65 h
  rw [cellsOfStp] at hl
  obtain ⟨a, b, rfl⟩ := list2 hl
  rw [cellsOfInt] at h1
  rw [cellsOfSlk] at h0
  obtain ⟨i, e1, _, w0⟩ := DataW.trod_int Tryd.underlying3 h1
  obtain ⟨l, hv⟩ := open_slk (v := a) (by simpa using h0)
  simp at e1
  subst e1
  exact ⟨a, (l, i), rfl, hv⟩
theorem open_stps {a : Addr} {len : Nat} (h : ∀ i, i < len → ∃ cs' n x, w.cells? base (a.add (i * 2)) 2 = some cs' ∧ DataW.trod enc Tryd.prog w base spare held n 65 cs' = some x) : ∃ l : List Stp, l.length = len ∧ CellsP w (some a) l ∧ (0 < len → a.spot = none) := by
  have key : ∀ i, i < len → ∃ y : Value × Stp, w.cell? (a.add (i * 2)) = some y.1 ∧ w.cell? ((a.add (i * 2)).add 1) = some (.int .i64 y.2.2) ∧ SliceK w y.1 y.2.1 := fun i hi => by
    obtain ⟨cs', n, x, h1, h2⟩ := h i hi
    obtain ⟨v, y, rfl, hv⟩ := open_stp h2
    obtain ⟨_, _, hc⟩ := World.cells?_some h1
    have c0 := hc 0 (by omega)
    have c1 := hc 1 (by omega)
    refine ⟨(v, y), ?_, c1, hv⟩
    have e : (a.add (i * 2)).add 0 = a.add (i * 2) := by simp [Addr.add]
    rw [e] at c0
    exact c0
  obtain ⟨f, hf⟩ := choose_lt (α := Value × Stp) key
  have hs : 0 < len → a.spot = none := fun h0 => by
    have h0 := World.cell?_spot (hf 0 h0).1
    simpa [Addr.add] using h0
  refine ⟨(List.range len).map fun i => (f i).2, by simp, fun i hi => ?_, hs⟩
  have hi' : i < len := by simpa using hi
  obtain ⟨h1, h2, h3⟩ := hf i hi'
  have hp : ((List.range len).map fun i => (f i).2).getD i stp0 = (f i).2 := by simp [List.getD, hi']
  rw [hp]
  obtain ⟨b, off, spot⟩ := a
  have hs := hs (by omega)
  dsimp only at hs
  subst hs
  rw [Addr.add_lit] at h1 h2
  rw [Addr.add_lit] at h2
  exact ⟨b, off, _, rfl, h1, h3, h2⟩
theorem open_slp {fuel : Nat} {v : Value} {x : DataW H × List MemPlace} (h : DataW.trod enc Tryd.prog w base spare held fuel 22 [v] = some x) :
    ∃ (l : List Stp) (a : Option Addr) (cap : Nat), v = .slice a l.length cap ∧ CellsP w a l ∧ l.length ≤ maxLen ∧ Room a l.length cap := by
  rcases open_slice Tryd.underlying22 h with ⟨h1, _⟩ | ⟨a, len, cap, m, n, D, Pl, h1, hb, hl, hm, hmm, _, hx⟩
  · simp at h1
    exact ⟨[], none, 0, h1, fun i hi => by simp at hi, by simp, by simp, by simp, fun h0 => by simp at h0⟩
  · simp at h1
    rw [cellsOfStp] at hx
    have hlm : len ≤ m := by rw [hmm]; split <;> omega
    obtain ⟨l, hll, hc, hs⟩ := open_stps (enc := enc) (spare := spare) (held := held) (w := w) (base := base) (a := a) (len := len) (fun i hi => by
      obtain ⟨cs', h2, h3⟩ := hx i (by omega)
      exact ⟨cs', n, _, h2, h3⟩)
    refine ⟨l, some a, cap, by rw [h1, hll], hc, by rw [hll]; omega, by rw [hll]; exact hl, hm, fun h0 => ?_⟩
    obtain ⟨b, off, spot⟩ := a
    have := hs (by omega)
    dsimp only at this
    subst this
    exact ⟨b, off, rfl⟩
set_option maxRecDepth 100000 in
theorem open_seq {r : Reach} {b0 : Nat} {v : Value} {d : DataW H} {p : List MemPlace} (hv : Value.okWide Tryd.prog w r b0 24 v) (h : DataW.Trod enc Tryd.prog w base spare held 24 v d p) :
    ∃ (n : Int) (l : List Stp) (a : Option Addr) (cap : Nat), v = .agg #[.int .i64 n, .slice a l.length cap] ∧ CellsP w a l ∧ l.length ≤ maxLen ∧ Room a l.length cap ∧ (Lit.int .i64 n).wf = true := by
  obtain ⟨c0, c1, y0, y1, n, rfl, _, _, h0, h1⟩ := open_agg2 Tryd.underlying24 (by kernel_rfl) (by kernel_rfl) hv h
  obtain ⟨i, e0, _, w0⟩ := DataW.trod_int Tryd.underlying3 h0
  obtain ⟨l, a, cap, e1, hc, hl, hr⟩ := open_slp h1
  simp at e0
  subst e0; subst e1
  exact ⟨i, l, a, cap, rfl, hc, hl, hr, w0⟩
end
end Go.Proofs.YtdolibeceijnnaaDoor
namespace Go.Proofs.YtdolibeceijnnaaDoor
open Go.ChangeShapes Go.WideShapes Go.ChangeAt Go.RowKit
theorem ownG : ownKnob Tryd.prog.godebug = none := by kernel_rfl
theorem gTab : Tryd.prog.globalNamed "pneumatic/group.bits" = some 0 := by kernel_rfl
theorem gTabT : (Tryd.prog.globals[0]?).map (·.type) = some 105 := by kernel_rfl
theorem cellsTab : Tryd.prog.cellsOf 105 = 6 := by kernel_rfl
theorem cellsU : Tryd.prog.cellsOf 76 = 1 := by kernel_rfl
def bitsTab : List Int := [1, 2, 4, 8, 16, 32]
theorem bits_of {W : World} (hL : laidMetH Tryd.prog Rows.topGroupsJoinRow.laid W) : GBits W := by
  have hP : laidMet Tryd.prog Rows.topGroupsJoinRow.laid W := by
    rw [← MakeChecks.laidMetH_plain _ _ _ (by kernel_rfl)]; exact hL
  have hT : Lib.TabIs Tryd.prog W "pneumatic/group.bits" .u64 bitsTab := Lib.tabIs_of_head gTab gTabT Tryd.underlying105 Tryd.underlying76 cellsU cellsTab hP
  intro i hi
  have h := Lib.TabIs.cell hT gTab i (by unfold bitsTab; simpa using hi)
  rw [h]
  have : i = 0 ∨ i = 1 ∨ i = 2 ∨ i = 3 ∨ i = 4 ∨ i = 5 := by omega
  rcases this with rfl | rfl | rfl | rfl | rfl | rfl <;> rfl
def flatD : Nat → DataW Unit → List Value
  | _ + 1, .lit (.int k z) => [.int k z]
  | n + 1, .agg ds => ds.flatMap (flatD n)
  | _, _ => []
def putC (cs : List Value) : Obj → Obj
  | .cells _ t frozen => .cells ⟨cs⟩ t frozen
  | o => o
noncomputable def laidWorld (os : Os) : World :=
  let w0 := World.holding Tryd.prog os ⟨#[], #[], []⟩
  { w0 with heap := w0.heap.modify 0 (putC (flatD 3 Rows.laid_pneumatic_group_bits)) }
theorem laid_met (os : Os) (args : Array Value) : laidMet Tryd.prog Rows.topGroupsJoinRow.laid ((laidWorld os).forCall (fun _ _ => 0) ⟨#[], args, []⟩).memory :=
  laidMet_of_run' 8 (by kernel_rfl) (by kernel_rfl)
end Go.Proofs.YtdolibeceijnnaaDoor
namespace Go.Proofs.YtdolibeceijnnaaDoor
theorem line_up {l q : List Stp} (h0 : 0 < q.length) : Greedy (okF (lin (l ++ q))) l.length (l.length + q.length) (grpN q) := by
  have := (grp_greedy h0).up (ok := okF (lin (l ++ q))) (t := l.length) (okF_shift fun p => by
    unfold lin
    rw [List.getD_eq_getElem?_getD, List.getD_eq_getElem?_getD, List.getElem?_append_right (by omega), Nat.add_sub_cancel])
  rwa [Nat.zero_add, Nat.add_comm q.length] at this
theorem line_pre {l q : List Stp} (h0 : 0 < l.length) : Greedy (okF (lin (l ++ q))) 0 l.length (grpN l) :=
  (grp_greedy h0).congr (n := l.length) (Nat.le_refl _) fun i j hi hj => okF_congr fun p r hp hr => by
    have e : ∀ p, p < l.length → lin (l ++ q) p = lin l p := fun p hp => by
      unfold lin; rw [List.getD_eq_getElem?_getD, List.getElem?_append_left hp, ← List.getD_eq_getElem?_getD]
    rw [e p (by omega), e r (by omega)]
theorem joined_groups {l q : List Stp} (hl : 0 < l.length) (hq : 0 < q.length) : grpN (l ++ q) ≤ grpN l + grpN q ∧ grpN l + grpN q ≤ grpN (l ++ q) + 1 := by
  have h1 := line_pre (q := q) hl
  have h2 := line_up (l := l) hq
  have h3 := grp_greedy (l := l ++ q) (by rw [List.length_append]; omega)
  rw [List.length_append] at h3
  exact greedy_two (okF_her _) h1 h2 h3 hl (by omega)
theorem Greedy.congrO {ok ok' : Nat → Nat → Bool} {a b k : Nat} (h : Greedy ok a b k) (e : ∀ i j, a ≤ i → j ≤ b → ok i j = ok' i j) : Greedy ok' a b k := by
  induction h with
  | nil => exact .nil _
  | cons h1 h2 h3 h4 ih =>
    rename_i a c b k
    have hcb := h4.div.le
    refine .cons h1 (by rw [← e _ _ (Nat.le_refl _) hcb]; exact h2) ?_ (ih fun i j hi hj => e i j (by omega) hj)
    rcases h3 with h3 | ⟨h3, h5⟩
    · exact .inl h3
    · exact .inr ⟨h3, by rw [← e _ _ (Nat.le_refl _) h3]; exact h5⟩
theorem seg_greedy {l : List Stp} {x y : Nat} (hxy : x < y) (hy : y ≤ l.length) : Greedy (okF (lin l)) x y (grpN ((l.take y).drop x)) := by
  have hlen : ((l.take y).drop x).length = y - x := by rw [List.length_drop, List.length_take]; omega
  have h1 := line_up (l := l.take x) (q := (l.take y).drop x) (by omega)
  have e1 : l.take x ++ (l.take y).drop x = l.take y := by
    have e : (l.take y).take x = l.take x := by rw [List.take_take, Nat.min_eq_left (by omega)]
    rw [← e, List.take_append_drop]
  rw [e1, hlen, List.length_take, Nat.min_eq_left (by omega), show x + (y - x) = y by omega] at h1
  refine h1.congrO fun i j _ hj => (okF_congr fun p q hp hq => ?_).symm
  have e2 : ∀ p, p < y → lin (l.take y) p = lin l p := fun p hp => by
    unfold lin; rw [List.getD_eq_getElem?_getD, List.getElem?_take_of_lt hp, ← List.getD_eq_getElem?_getD]
  rw [e2 p (by omega), e2 q (by omega)]
theorem part_groups {n : Nat} {l : List Stp} (h : Right (n : Int) l) {k : Nat} (hk : k < (pauses ((n : Int), l)).length) : grpN (partAt ((n : Int), l) k).2 = grpN ((l.take (startOf ((n : Int), l) (k + 1))).drop (startOf ((n : Int), l) k)) := by
  have hlt := start_lt hk
  have e0 : startOf ((n : Int), l) k = ((pauses ((n : Int), l)).getD k 0).toNat := by unfold startOf; rw [if_pos hk]
  have hseg : partAt ((n : Int), l) k = partOf (n : Int) ((l.take (startOf ((n : Int), l) (k + 1))).drop (startOf ((n : Int), l) k)) := by
    unfold partAt
    rw [e0]; rfl
  rw [hseg]
  obtain ⟨seg, hsg⟩ : ∃ seg, seg = (l.take (startOf ((n : Int), l) (k + 1))).drop (startOf ((n : Int), l) k) := ⟨_, rfl⟩
  have hlen : seg.length = startOf ((n : Int), l) (k + 1) - startOf ((n : Int), l) k := by rw [hsg, List.length_drop, List.length_take]; omega
  rw [← hsg]
  obtain ⟨g, hg⟩ := part_bij n seg
  have hsub : ∀ x ∈ seg, x ∈ l := fun x hx => by rw [hsg] at hx; exact List.mem_of_mem_take (List.mem_of_mem_drop hx)
  have hf : ∀ x ∈ seg, FineP (fun a => In (n : Int) a ∧ movedIn a seg = true) x := fun x hx => by
    have := h.fine x (hsub x hx)
    exact ⟨this.1, fun y hy => ⟨this.2 y hy, movedIn_mem hx hy⟩⟩
  have hn6 : partFn seg (n : Int) ≤ 6 := by
    have h1 := partFn_le seg n
    have h2 := h.act
    omega
  have := ren_okF hg hn6 hf (by omega)
  unfold partOf grpN
  dsimp only
  rw [this, List.length_map]
def partSum (s : Sq) : Nat → Nat → Nat
  | 0, _ => 0
  | c + 1, k => grpN (partAt s k).2 + partSum s c (k + 1)
theorem parts_ok {n : Nat} {l : List Stp} (h : Right (n : Int) l) : ∀ c k, k + (c + 1) = (pauses ((n : Int), l)).length → Parts (okF (lin l)) (startOf ((n : Int), l) k) l.length (c + 1) (partSum ((n : Int), l) (c + 1) k) := by
  intro c
  induction c with
  | zero =>
    intro k hk
    have hlt := start_lt (n := (n : Int)) (l := l) (k := k) (by omega)
    have he : startOf ((n : Int), l) (k + 1) = l.length := by unfold startOf; rw [if_neg (by omega)]
    unfold partSum partSum
    rw [Nat.add_zero, part_groups h (by omega)]
    rw [he] at hlt ⊢
    exact .one (by omega) (seg_greedy (by omega) (Nat.le_refl _))
  | succ c ih =>
    intro k hk
    have hlt := start_lt (n := (n : Int)) (l := l) (k := k) (by omega)
    unfold partSum
    rw [part_groups h (by omega)]
    exact .cons (by omega) (seg_greedy (by omega) (by omega)) (ih (k + 1) (by omega))
theorem parts_groups {n : Nat} {l : List Stp} (h : Right (n : Int) l) : grpN l ≤ partSum ((n : Int), l) (pauses ((n : Int), l)).length 0 ∧ partSum ((n : Int), l) (pauses ((n : Int), l)).length 0 ≤ grpN l + ((pauses ((n : Int), l)).length - 1) := by
  obtain ⟨h1, h2⟩ := pauses_first h
  have h0 := h.len.1
  obtain ⟨c, hc⟩ : ∃ c, (pauses ((n : Int), l)).length = c + 1 := ⟨(pauses ((n : Int), l)).length - 1, by omega⟩
  have hp := parts_ok h c 0 (by omega)
  have hs : startOf ((n : Int), l) 0 = 0 := by unfold startOf; rw [if_pos h1, h2]; rfl
  rw [hs, ← hc] at hp
  exact hp.sum (okF_her _) (fun a b hab => Greedy.ex (okF_her _) (b - a) a b (Nat.le_refl _) (by omega)) (grp_greedy h0)
end Go.Proofs.YtdolibeceijnnaaDoor
namespace Go.Proofs.YtdolibeceijnnaaDoor
open Go.RowKit
theorem SeqErr.at {s : Sq} {er : Int} {w : World} {e : Ending} {w' : World} (h : SeqErr s er w e w') : ∃ a cap, e = .returned (.tuple #[.agg #[.int .i64 s.1, .slice a s.2.length cap], .int .i64 er]) ∧ CellsP w' a s.2 ∧ Room a s.2.length cap ∧ Ext w w' := by
  obtain ⟨v, rfl, ⟨u, rfl, a, cap, rfl, hc, hm⟩, hE⟩ := h
  exact ⟨a, cap, rfl, hc, hm, hE⟩
structure Box (w : World) (b : Nat) (x : Int) (v : Value) : Prop where
  c0 : w.cell? ⟨b, 0, none⟩ = some (.int .i64 x)
  c1 : w.cell? ⟨b, 1, none⟩ = some v
  f0 : w.frozen? ⟨b, 0, none⟩ = false
  f1 : w.frozen? ⟨b, 1, none⟩ = false
  no : ∀ o, 2 ≤ o → w.cell? ⟨b, o, none⟩ = none
theorem Box.ext {w w' : World} {b : Nat} {x : Int} {v : Value} (h : Box w b x v) (k : Ext w w') : Box w' b x v :=
  ⟨k.cell h.c0, k.cell h.c1, (Below.frozen (p := ⟨b, 0, none⟩) k (cell_lt h.c0)).trans h.f0, (Below.frozen (p := ⟨b, 1, none⟩) k (cell_lt h.c1)).trans h.f1, fun o ho => (World.cell?_of_block (Below.block k b (cell_lt h.c0))).trans (h.no o ho)⟩
theorem Box.new (w : World) (x : Int) (a : Option Addr) (n c : Nat) : Box (w.alloc (.cells #[.int .i64 x, .slice a n c] 24)) w.heap.size x (.slice a n c) := by
  refine ⟨by go_simp, by go_simp, by go_simp, by go_simp, fun o ho => ?_⟩
  rw [World.cell?_alloc_new]
  exact Array.getElem?_eq_none (by simpa using ho)
theorem Box.set {w : World} {b : Nat} {x : Int} {v : Value} (h : Box w b x v) (y : Int) (u : Value) : Box ((w.setCell ⟨b, 0, none⟩ (.int .i64 y)).setCell ⟨b, 1, none⟩ u) b y u := by
  have e0 : (w.setCell ⟨b, 0, none⟩ (.int .i64 y)).cell? ⟨b, 0, none⟩ = some (.int .i64 y) := World.cell?_setCell_same _ _ _ h.c0
  have e1 : (w.setCell ⟨b, 0, none⟩ (.int .i64 y)).cell? ⟨b, 1, none⟩ = some v := by
    rw [World.cell?_setCell_other _ _ _ _ (fun h => by simp only [Addr.mk.injEq] at h; omega)]; exact h.c1
  refine ⟨?_, World.cell?_setCell_same _ _ _ e1, by rw [World.frozen?_setCell, World.frozen?_setCell]; exact h.f0, by rw [World.frozen?_setCell, World.frozen?_setCell]; exact h.f1, fun o ho => ?_⟩
  · rw [World.cell?_setCell_other _ _ _ _ (fun h => by simp only [Addr.mk.injEq] at h; omega)]; exact e0
  · rw [World.cell?_setCell_other _ _ _ _ (fun h => by simp only [Addr.mk.injEq] at h; omega), World.cell?_setCell_other _ _ _ _ (fun h => by simp only [Addr.mk.injEq] at h; omega)]; exact h.no o ho
theorem Box.keepK {w : World} {b : Nat} {x : Int} {sa : Option Addr} {sn sc : Nat} (h : Box w b x (.slice sa sn sc)) {a : Option Addr} {l : List Stk} (hc : CellsK w a l) {B : World} (hB : ∀ k, k < w.heap.size → k ≠ b → B.heap[k]? = w.heap[k]?) : CellsK B a l := fun i hi => by
  obtain ⟨b', off, ha, p1, p2⟩ := hc i hi
  have hne : b' ≠ b := by
    rintro rfl
    rcases Nat.lt_or_ge (off + i * 2) 2 with hlt | hge
    · rcases Nat.lt_or_ge (off + i * 2) 1 with h1 | h1
      · have e : off + i * 2 = 0 := by omega
        rw [e] at p2
        rw [h.c1] at p2
        cases p2
      · have e : off + i * 2 = 1 := by omega
        rw [e, h.c1] at p1
        cases p1
    · rw [h.no _ hge] at p1; cases p1
  have e := hB b' (cell_lt p1) hne
  exact ⟨b', off, ha, (World.cell?_of_block e).trans p1, (World.cell?_of_block e).trans p2⟩
theorem Box.keep {w : World} {b : Nat} {x : Int} {sa : Option Addr} {sn sc : Nat} (h : Box w b x (.slice sa sn sc)) {a : Option Addr} {l : List Stp} (hc : CellsP w a l) {B : World} (hB : ∀ k, k < w.heap.size → k ≠ b → B.heap[k]? = w.heap[k]?) : CellsP B a l := fun i hi => by
  obtain ⟨b', off, v, ha, p1, ⟨a2, c2, rfl, hk, hm⟩, p2⟩ := hc i hi
  have hne : b' ≠ b := by
    rintro rfl
    rcases Nat.lt_or_ge (off + i * 2) 2 with hlt | hge
    · rcases Nat.lt_or_ge (off + i * 2) 1 with h1 | h1
      · have e : off + i * 2 = 0 := by omega
        rw [e, h.c0] at p1
        cases p1
      · rw [h.no (off + i * 2 + 1) (by omega)] at p2; cases p2
    · rw [h.no _ hge] at p1; cases p1
  have e := hB b' (cell_lt p1) hne
  exact ⟨b', off, _, ha, (World.cell?_of_block e).trans p1, ⟨a2, c2, rfl, h.keepK hk hB, hm⟩, (World.cell?_of_block e).trans p2⟩
theorem set2_block (w : World) (b : Nat) (u v : Value) : ∀ k, k < w.heap.size → k ≠ b → ((w.setCell ⟨b, 0, none⟩ u).setCell ⟨b, 1, none⟩ v).heap[k]? = w.heap[k]? := fun _k _ hk =>
  (Below.heap_setCell _ _ _ _ (fun e => hk e)).trans (Below.heap_setCell _ _ _ _ (fun e => hk e))
theorem Box.other {w : World} {b c : Nat} {x : Int} {v : Value} (h : Box w c x v) (hne : c ≠ b) (u t : Value) : Box ((w.setCell ⟨b, 0, none⟩ u).setCell ⟨b, 1, none⟩ t) c x v := by
  have e := set2_block w b u t c (cell_lt h.c0) hne
  exact ⟨(World.cell?_of_block e).trans h.c0, (World.cell?_of_block e).trans h.c1, (World.frozen?_of_block e).trans h.f0, (World.frozen?_of_block e).trans h.f1, fun o ho => (World.cell?_of_block e).trans (h.no o ho)⟩
end Go.Proofs.YtdolibeceijnnaaDoor
namespace Go.Proofs.YtdolibeceijnnaaDoor
open Go.RowKit
theorem CellsK.take {w : World} {a : Option Addr} {l : List Stk} (h : CellsK w a l) (k : Nat) : CellsK w a (l.take k) := fun i hi => by
  rw [List.length_take] at hi
  have e : (l.take k).getD i stk0 = l.getD i stk0 := by
    rw [List.getD_eq_getElem?_getD, List.getD_eq_getElem?_getD, List.getElem?_take_of_lt (by omega)]
  rw [e]
  exact h i (by omega)
theorem CellsK.drop {w : World} {b off : Nat} {l : List Stk} (h : CellsK w (some ⟨b, off, none⟩) l) (k : Nat) : CellsK w (some ⟨b, off + k * 2, none⟩) (l.drop k) := fun i hi => by
  rw [List.length_drop] at hi
  obtain ⟨b', o', e, p1, p2⟩ := h (k + i) (by omega)
  cases e
  have e : (l.drop k).getD i stk0 = l.getD (k + i) stk0 := by
    rw [List.getD_eq_getElem?_getD, List.getD_eq_getElem?_getD, List.getElem?_drop]
  rw [e]
  exact ⟨b, off + k * 2, rfl, by rw [show off + k * 2 + i * 2 = off + (k + i) * 2 from by omega]; exact p1, by rw [show off + k * 2 + i * 2 + 1 = off + (k + i) * 2 + 1 from by omega]; exact p2⟩
end Go.Proofs.YtdolibeceijnnaaDoor
namespace Go.Proofs.YtdolibeceijnnaaDoor
open Go.RowKit
theorem joins_plain {m n : Int} {l q : List Stp} (h : ckSeq (m, l) = 0) (k : ckSeq (n, q) = 0) (hlen : l.length + q.length ≤ 64) {M : Int} {J : List Stp} (hJ : joined2 (m, l) (n, q) = (M, J)) :
    joinE (m, l) (n, q) = 0 ∧ ckSeq (M, J) = 0 ∧ mem1 (pauses (M, J)) (l.length : Int) = true ∧ fromE (M, J) (l.length : Int) = 0 ∧ (turned (M, J) l.length).2.length = J.length := by
  have e1 : M = max m n := (congrArg Prod.fst hJ).symm
  have e2 : J = l ++ q := (congrArg Prod.snd hJ).symm
  subst e1
  subst e2
  have hr := ckSeq_right h
  have kr := ckSeq_right k
  have jr := joined_right hr kr hlen
  have hq0 := kr.len.1
  have hlt : l.length < (l ++ q).length := by rw [List.length_append]; omega
  have hrest : restsAt (max m n, l ++ q) l.length = true := by
    rw [rests_none jr, List.take_left]
    exact hr.none
  refine ⟨?_, jr.ck, ?_, ?_, ?_⟩
  · unfold joinE
    rw [if_neg (by simp [h]), if_neg (by simp [k]), if_neg (by dsimp only; omega)]
  · rw [pauses_mem _ _ _ (by omega) (by omega)]
    exact hrest
  · unfold fromE
    dsimp only
    rw [if_neg (by simp [jr.ck]), if_neg (by omega), if_pos (show restsAt (max m n, l ++ q) ((l.length : Int)).toNat = true from hrest)]
  · show ((l ++ q).drop l.length ++ (l ++ q).take l.length).length = (l ++ q).length
    rw [List.length_append, List.length_drop, List.length_take]
    omega
end Go.Proofs.YtdolibeceijnnaaDoor
namespace Go.Proofs.YtdolibeceijnnaaDoor
open Go.RowKit
theorem grpN_le {l : List Stp} (h : 0 < l.length) : grpN l ≤ l.length := long_len (okF_her _) h
theorem FewestN_any (n : Int) (l : List Stp) (a : Option Addr) (cap : Nat) (w : World) (hk : ckSeq (n, l) = 0) (hG : GBits w) (hc : CellsP w a l) :
    Calls Tryd.prog 12 #[.agg #[.int .i64 n, .slice a l.length cap]] w fun e w' => ∃ ra rc, e = .returned (.tuple #[.slice ra (grpN l) rc, .int .i64 0]) ∧ Ext w w' := by
  refine (Fewest_any n l a cap w hk hG hc).mono ?_
  rintro e w' ⟨ra, rc, rfl, _, _, hE⟩
  rw [intsN_len]
  exact ⟨ra, rc, rfl, hE⟩
theorem mem1_two {P : List Int} {x : Int} (h0 : P.getD 0 0 = 0) (hx : mem1 P x = true) (hx0 : x ≠ 0) : 2 ≤ P.length := by
  unfold mem1 at hx
  cases P with
  | nil => simp at hx
  | cons p P =>
    cases P with
    | nil => simp at hx h0; omega
    | cons => simp
set_option maxHeartbeats 16000000 in
set_option maxRecDepth 100000 in
theorem TopGroupsJoin_any (n m : Int) (l q : List Stp) (a b : Option Addr) (ca cb : Nat) (w : World) (hG : GBits w) (hc : CellsP w a l) (hr : Room a l.length ca) (hd : CellsP w b q) (hs : Room b q.length cb) :
    Calls Tryd.prog 6 #[.agg #[.int .i64 n, .slice a l.length ca], .agg #[.int .i64 m, .slice b q.length cb]] w fun e w' => e = .returned (.bool true) ∧ Ext w w' := by
  have HG := Lib.hid hG
  have HC := Lib.hid hc
  have HR := Lib.hid hr
  have HD := Lib.hid hd
  have HS := Lib.hid hs
  clear hG hc hr hd hs
  go_enter Tryd.func6, Tryd.ntmps6
  go_wp2_with fail
  have E0 : Ext w ((w.alloc (.cells #[.int .i64 n, .slice a l.length ca] 24)).alloc (.cells #[.int .i64 m, .slice b q.length cb] 24)) := extA
  have a0 : (((w.alloc (.cells #[.int .i64 n, .slice a l.length ca] 24)).alloc (.cells #[.int .i64 m, .slice b q.length cb] 24))).cell? ⟨w.heap.size, 0, none⟩ = some (.int .i64 n) := by go_simp
  have a1 : (((w.alloc (.cells #[.int .i64 n, .slice a l.length ca] 24)).alloc (.cells #[.int .i64 m, .slice b q.length cb] 24))).cell? ⟨w.heap.size, 1, none⟩ = some (.slice a l.length ca) := by go_simp
  have b0 : (((w.alloc (.cells #[.int .i64 n, .slice a l.length ca] 24)).alloc (.cells #[.int .i64 m, .slice b q.length cb] 24))).cell? ⟨w.heap.size + 1, 0, none⟩ = some (.int .i64 m) := by go_simp
  have b1 : (((w.alloc (.cells #[.int .i64 n, .slice a l.length ca] 24)).alloc (.cells #[.int .i64 m, .slice b q.length cb] 24))).cell? ⟨w.heap.size + 1, 1, none⟩ = some (.slice b q.length cb) := by go_simp
  generalize ((w.alloc (.cells #[.int .i64 n, .slice a l.length ca] 24)).alloc (.cells #[.int .i64 m, .slice b q.length cb] 24)) = W at E0 a0 a1 b0 b1 ⊢
  refine (caseSmall_any n l a ca 10 _ (HC.out.ext E0) HR.out).mono ?_
  rintro e w1 ⟨rfl, hE⟩
  have F1 := E0.trans hE
  replace a0 := (hE).cell a0
  replace a1 := (hE).cell a1
  replace b0 := (hE).cell b0
  replace b1 := (hE).cell b1
  clear hE E0
  have HRA := Lib.hid (fun h => smallB_true (n := n) (l := l) (k := 10) h)
  generalize smallB n l 10 = fa at HRA ⊢
  obtain ⟨bs, hbs⟩ : ∃ bs, bs = w.heap.size := ⟨_, rfl⟩
  rw [← hbs] at a0 a1 b0 b1 ⊢
  clear hbs
  cases fa
  · go_wp2_with fail
    refine (caseGroups_any _ (HG.out.ext F1)).mono ?_
    rintro e w2 ⟨rfl, hE⟩
    go_wp2
    go_ret
    exact ⟨rfl, F1.trans hE⟩
  go_wp2_with fail
  refine (caseSmall_any m q b cb 10 _ (HD.out.ext F1) HS.out).mono ?_
  rintro e w2 ⟨rfl, hE⟩
  have F2 := F1.trans hE
  replace a0 := (hE).cell a0
  replace a1 := (hE).cell a1
  replace b0 := (hE).cell b0
  replace b1 := (hE).cell b1
  clear hE F1
  have HRB := Lib.hid (fun h => smallB_true (n := m) (l := q) (k := 10) h)
  generalize smallB m q 10 = fb at HRB ⊢
  cases fb
  · go_wp2_with fail
    refine (caseGroups_any _ (HG.out.ext F2)).mono ?_
    rintro e w3 ⟨rfl, hE⟩
    go_wp2
    go_ret
    exact ⟨rfl, F2.trans hE⟩
  obtain ⟨hla, hka⟩ := HRA.out (by first | trivial | rfl)
  obtain ⟨hlb, hkb⟩ := HRB.out (by first | trivial | rfl)
  have hl0 := (ckSeq_right hka).len.1
  have hq0 := (ckSeq_right hkb).len.1
  obtain ⟨⟨M, J⟩, hJ⟩ : ∃ s : Sq, joined2 (n, l) (m, q) = s := ⟨_, rfl⟩
  have hJ2 : J = l ++ q := (congrArg Prod.snd hJ).symm
  obtain ⟨p1, p2, p3, _, _⟩ := joins_plain hka hkb (by omega) hJ
  have hJl : J.length ≤ 20 := by rw [hJ2, List.length_append]; omega
  have hrJ := ckSeq_right p2
  obtain ⟨N, rfl⟩ := Int.eq_ofNat_of_zero_le (show 0 ≤ M by have := hrJ.act; omega)
  have hg1 := joined_groups hl0 hq0
  rw [← hJ2] at hg1
  have hg2 := parts_groups hrJ
  have hgz := grpN_le hrJ.len.1
  have hpp := mem1_two (pauses_first hrJ).2 p3 (by omega)
  have hple := pauses_le ((N : Int), J)
  have hpln := parts_len ((N : Int), J)
  have HPA := Lib.hid (fun k (h : k < (pauses ((N : Int), J)).length) => parts_at ((N : Int), J) h)
  have HPO := Lib.hid (fun k (h : k < (pauses ((N : Int), J)).length) => (part_ok hrJ h).1)
  have HJN := Lib.hid (fun W h1 h2 => Join_any n m l q a b ca cb W HR.out h1 HS.out h2)
  rw [p1, if_pos rfl, hJ] at HJN
  have HFA := Lib.hid (fun W hg h => FewestN_any n l a ca W hka hg h)
  have HFB := Lib.hid (fun W hg h => FewestN_any m q b cb W hkb hg h)
  have HFJ := Lib.hid (fun xa xc W hg h => FewestN_any (N : Int) J xa xc W p2 hg h)
  have HP2 := Lib.hid p2
  generalize grpN l = X at HFA hg1
  generalize grpN q = Y at HFB hg1
  generalize grpN J = Z at HFJ hg1 hg2 hgz
  generalize hSS : partSum ((N : Int), J) (pauses ((N : Int), J)).length 0 = S at hg2
  have HSS := Lib.hid hSS
  clear p1 p2 p3 hJ hJ2 hka hkb HRA HRB hSS hrJ
  go_wp2_with fail
  refine (HJN.out _ (HC.out.ext F2) (HD.out.ext F2)).mono ?_
  rintro e w3 h
  obtain ⟨xa, xc, rfl, hf, hfl, hE⟩ := h.at
  dsimp only at hf hfl ⊢
  have XJ := Lib.hid hf
  have XR := Lib.hid hfl
  have F3 := F2.trans hE
  replace a0 := (hE).cell a0
  replace a1 := (hE).cell a1
  replace b0 := (hE).cell b0
  replace b1 := (hE).cell b1
  have z4 := cell_lt a0
  have z5 := cell_lt b0
  dsimp only at z4 z5
  clear hf hfl hE F2 h HJN
  go_wp2_with fail
  have E5 : Ext w3 (w3.alloc (.cells #[.int .i64 (N : Int), .slice xa J.length xc] 24)) := extA
  have BX := Lib.hid (Box.new w3 (N : Int) xa J.length xc)
  replace XJ := Lib.hid (XJ.out.ext E5)
  have F4 := F3.trans E5
  replace a0 := (E5).cell a0
  replace a1 := (E5).cell a1
  replace b0 := (E5).cell b0
  replace b1 := (E5).cell b1
  obtain ⟨b2, hb2⟩ : ∃ b, b = w3.heap.size := ⟨_, rfl⟩
  rw [← hb2] at BX z4 z5 ⊢
  clear hb2 E5 F3
  generalize (w3.alloc (.cells #[.int .i64 (N : Int), .slice xa J.length xc] 24)) = W4 at BX XJ F4 a0 a1 b0 b1 ⊢
  refine (HFA.out _ (HG.out.ext F4) (HC.out.ext F4)).mono ?_
  rintro e w5 ⟨ra, rc, rfl, hE⟩
  replace BX := Lib.hid (BX.out.ext hE)
  replace XJ := Lib.hid (XJ.out.ext hE)
  have F5 := F4.trans hE
  replace a0 := (hE).cell a0
  replace a1 := (hE).cell a1
  replace b0 := (hE).cell b0
  replace b1 := (hE).cell b1
  clear hE F4 HFA
  go_wp2_with fail
  refine (HFB.out _ (HG.out.ext F5) (HD.out.ext F5)).mono ?_
  rintro e w6 ⟨rb, rd, rfl, hE⟩
  replace BX := Lib.hid (BX.out.ext hE)
  replace XJ := Lib.hid (XJ.out.ext hE)
  have F6 := F5.trans hE
  have x0 := BX.out.c0
  have x1 := BX.out.c1
  clear hE F5 HFB a0 a1 b0 b1 z4 z5
  go_wp2_with fail
  refine (HFJ.out xa xc _ (HG.out.ext F6) XJ.out).mono ?_
  rintro e w7 ⟨rz, rzc, rfl, hE⟩
  replace BX := Lib.hid (BX.out.ext hE)
  replace XJ := Lib.hid (XJ.out.ext hE)
  have F7 := F6.trans hE
  have x0 := BX.out.c0
  have x1 := BX.out.c1
  have v1 : IntKind.i64.wrap ((X : Int) + (Y : Int)) = ((X + Y : Nat) : Int) := by rw [IntWalk.i64_in _ (by omega)]; omega
  have v2 : IntKind.i64.wrap (((X + Y : Nat) : Int) - 1) = ((X + Y : Nat) : Int) - 1 := IntWalk.i64_in _ (by omega)
  have v3 : ¬ (((X + Y : Nat) : Int) < (Z : Int)) := by omega
  have v4 : ¬ ((Z : Int) < ((X + Y : Nat) : Int) - 1) := by omega
  have v5 : IntKind.i64.wrap 0 = 0 := rfl
  have HPT := Lib.hid (fun W h => Parts_any (N : Int) J xa xc W XR.out h XR.out)
  rw [HP2.out, if_pos rfl] at HPT
  generalize partsOf ((N : Int), J) = Q at HPT hpln HPA
  clear hE F6
  go_wp2_with fail
  refine (HPT.out _ XJ.out).mono ?_
  rintro e w8 ⟨qa', qc', rfl, hq, hql, hE⟩
  have YQ := Lib.hid hq
  have F8 := F7.trans hE
  have hqp : 2 ≤ Q.length := by omega
  have hq64 : Q.length ≤ 20 := by omega
  have HQP := Lib.hid hpln
  have hS := hg2.2
  clear hq hql hE F7 HPT BX XJ x0 x1 v1 v2 v3 v4 hpln
  generalize (pauses ((N : Int), J)).length = P at HPA HPO HSS hg2 hpp hple HQP hS
  have hS40 : S ≤ 40 := by have := HQP.out; omega
  have M0 : Hid (0 + partSum ((N : Int), J) (Q.length - 0) 0 = S) := by show _ = _; rw [Nat.sub_zero, HQP.out, Nat.zero_add]; exact HSS.out
  go_wp2
  go_loopw [92, 14] (fun i v wr => ∃ k st : Nat, k ≤ Q.length ∧ i = .int .i64 k ∧ v = .int .i64 st ∧ Hid (st + partSum ((N : Int), J) (Q.length - k) k = S) ∧ Ext w8 wr) (fun i _ _ => Q.length - (intOf i).toNat)
  case atStart => exact ⟨0, 0, Nat.zero_le _, rfl, rfl, M0, Ext.refl _⟩
  case round =>
    obtain ⟨k, st, hk, rfl, rfl, hst, he⟩ := hrel
    clear M0
    have G8 := F8.trans he
    by_cases hlt : k < Q.length
    · have hkp : k < P := by have := HQP.out; omega
      have hQk := HPA.out k hkp
      have hok := HPO.out k hkp
      obtain ⟨qb, qo, qv, e8, y0, y1, qa2, qc2, rfl, hqc, hqr⟩ := YQ.out.ext he k hlt
      subst e8
      rw [hQk] at y0 y1 hqc hqr
      have hst2 : st + grpN (partAt ((N : Int), J) k).2 + partSum ((N : Int), J) (Q.length - (k + 1)) (k + 1) = S := by
        have h1 := hst.out
        rw [show Q.length - k = (Q.length - (k + 1)) + 1 by omega] at h1
        unfold partSum at h1
        omega
      have HFP := Lib.hid (fun W hg h => FewestN_any (partAt ((N : Int), J) k).1 (partAt ((N : Int), J) k).2 qa2 qc2 W hok hg h)
      have HST := Lib.hid hst2
      have HQC := Lib.hid hqc
      have hxb : grpN (partAt ((N : Int), J) k).2 + st ≤ 40 := by omega
      clear hqc hqr hst2 hst hQk hok
      generalize grpN (partAt ((N : Int), J) k).2 = XP at HFP HST hxb
      generalize partAt ((N : Int), J) k = pt at y0 y1 HQC HFP
      obtain ⟨pn, pl⟩ := pt
      dsimp only at y0 y1 HQC HFP
      have z0 := cell_lt y0
      dsimp only at z0
      have u1 : IntKind.i64.wrap ((st : Int) + (XP : Int)) = ((st + XP : Nat) : Int) := by rw [IntWalk.i64_in _ (by omega)]; omega
      go_wp2_with fail
      have E9 : Ext wr (wr.alloc (.cells #[.int .i64 pn, .slice qa2 pl.length qc2] 24)) := extA
      refine (HFP.out _ (HG.out.ext (G8.trans E9)) (HQC.out.ext E9)).mono ?_
      rintro e w9 ⟨rp, rpc, rfl, hE⟩
      have GA := he.trans (E9.trans hE)
      go_wp2
      refine ⟨⟨k + 1, st + XP, by omega, by go_num, by first | rfl | exact congrArg _ (by first | exact u1 | omega), HST.out, GA⟩, by simp [intOf]; omega⟩
    · have hke : k = Q.length := by omega
      have hst2 : st = S := by
        have h1 := hst.out
        rw [show Q.length - k = 0 by omega] at h1
        unfold partSum at h1
        omega
      subst hst2
      have v1 : IntKind.i64.wrap ((st : Int) - (Q.length : Int)) = (st : Int) - (Q.length : Int) := IntWalk.i64_in _ (by omega)
      have v2 : IntKind.i64.wrap ((st : Int) - (Q.length : Int) + 1) = (st : Int) - (Q.length : Int) + 1 := IntWalk.i64_in _ (by omega)
      have v3 : (Z : Int) ≤ (st : Int) := by omega
      have v4 : (st : Int) - (Q.length : Int) + 1 ≤ (Z : Int) := by have := HQP.out; omega
      have v5 : Z ≤ st := by omega
      clear hst hke
      go_wp2_with fail
      refine (caseGroups_any _ (HG.out.ext G8)).mono ?_
      rintro e w9 ⟨rfl, hE⟩
      go_wp2
      go_ret
      exact ⟨rfl, G8.trans hE⟩
end Go.Proofs.YtdolibeceijnnaaDoor
