/- Steps of the proof: QOpen, QOpenI, GGiv, QWord, Grp7, QLaw, QAcc, QLJoi, GJoi, GMer. No conditions. -/
import Derived.ProofKit
import Derived.OpenShut
import Derived.Lib.SmallJoins
import Derived.Deep.Slices
import Derived.Test.YtdolibeceijnnaaDoorCards
import Derived.Test.YtdolibeceijnnaaDoorTie
import Derived.WalkKit
import Derived.Deep.DeepHandedRow
import Derived.Lib.LaidTab
import Derived.LaidSub
import Derived.MakeChecks
import Derived.Test.YtdolibeceijnnaaDoorZGM1
import Derived.Test.YtdolibeceijnnaaDoorZGM2
import Derived.Test.YtdolibeceijnnaaDoorZGM3
import Derived.Test.YtdolibeceijnnaaDoorZGM4
import Derived.Test.YtdolibeceijnnaaDoorZGM5
namespace Go.Proofs.YtdolibeceijnnaaDoor
open Go.RowKit Go.ChangeShapes Go.WideShapes Go.Joins Go.Deep
theorem list2 {α : Type} {l : List α} (h : l.length = 2) : ∃ a b, l = [a, b] := by
  match l, h with
  | [a, b], _ => exact ⟨a, b, rfl⟩
theorem laidOut : laidOutB Tryd.prog = true := by kernel_rfl
theorem cellsOfStk : Tryd.prog.cellsOf 67 = 2 := by kernel_rfl
theorem cellsOfStp : Tryd.prog.cellsOf 65 = 2 := by kernel_rfl
theorem cellsOfInt : Tryd.prog.cellsOf 3 = 1 := by kernel_rfl
theorem cellsOfBool : Tryd.prog.cellsOf 4 = 1 := by kernel_rfl
theorem cellsOfSlk : Tryd.prog.cellsOf 45 = 1 := by kernel_rfl
section
variable {H : Type} {enc : TypeId × Value → H} {w : World} {base : Nat} {spare : Nat → Bool} {held : Bool}
theorem open_stk {fuel : Nat} {cs : List Value} {x : DataW H × List MemPlace} (h : DataW.trod enc Tryd.prog w base spare held fuel 67 cs = some x) : ∃ y : Stk, cs = [.int .i64 y.1, .bool y.2] := by
  obtain ⟨y0, y1, n, _, hl, h0, h1⟩ := trod_struct2 Tryd.underlying67 h
  rw [cellsOfStk] at hl
  obtain ⟨a, b, rfl⟩ := list2 hl
  rw [cellsOfInt] at h0
  rw [cellsOfBool] at h1
  obtain ⟨i, e0, _, w0⟩ := DataW.trod_int Tryd.underlying3 h0
  obtain ⟨j, e1, _⟩ := DataW.trod_bool Tryd.underlying4 h1
  simp at e0 e1
  subst e0; subst e1
  exact ⟨(i, j), rfl⟩
theorem open_stks {a : Addr} {len : Nat} (h : ∀ i, i < len → ∃ cs' n x, w.cells? base (a.add (i * 2)) 2 = some cs' ∧ DataW.trod enc Tryd.prog w base spare held n 67 cs' = some x) : ∃ l : List Stk, l.length = len ∧ CellsK w (some a) l := by
  have key : ∀ i, i < len → ∃ y : Stk, w.cell? (a.add (i * 2)) = some (.int .i64 y.1) ∧ w.cell? ((a.add (i * 2)).add 1) = some (.bool y.2) := fun i hi => by
    obtain ⟨cs', n, x, h1, h2⟩ := h i hi
    obtain ⟨y, rfl⟩ := open_stk h2
    obtain ⟨_, _, hc⟩ := World.cells?_some h1
    have c0 := hc 0 (by omega)
    have c1 := hc 1 (by omega)
    refine ⟨y, ?_, c1⟩
    have e : (a.add (i * 2)).add 0 = a.add (i * 2) := by simp [Addr.add]
    rw [e] at c0
    exact c0
  obtain ⟨f, hf⟩ := choose_lt (α := Stk) key
  refine ⟨(List.range len).map f, by simp, fun i hi => ?_⟩
  have hi' : i < len := by simpa using hi
  obtain ⟨h1, h2⟩ := hf i hi'
  have hp : ((List.range len).map f).getD i stk0 = f i := by simp [List.getD, hi']
  rw [hp]
  obtain ⟨b, off, spot⟩ := a
  have hs : spot = none := by
    have h0 := World.cell?_spot (hf 0 (by omega)).1
    simpa [Addr.add] using h0
  subst hs
  rw [Addr.add_lit] at h1 h2
  rw [Addr.add_lit] at h2
  exact ⟨b, off, rfl, h1, h2⟩
theorem open_slk {fuel : Nat} {v : Value} {x : DataW H × List MemPlace} (h : DataW.trod enc Tryd.prog w base spare held fuel 45 [v] = some x) : ∃ l : List Stk, SliceK w v l := by
  rcases open_slice Tryd.underlying45 h with ⟨h1, _⟩ | ⟨a, len, cap, m, n, D, Pl, h1, hb, hl, hm, hmm, _, hx⟩
  · simp at h1
    exact ⟨[], none, 0, h1, fun i hi => by simp at hi, by simp⟩
  · simp at h1
    rw [cellsOfStk] at hx
    have hlm : len ≤ m := by rw [hmm]; split <;> omega
    obtain ⟨l, hll, hc⟩ := open_stks (enc := enc) (spare := spare) (held := held) (w := w) (base := base) (a := a) (len := len) (fun i hi => by
      obtain ⟨cs', h2, h3⟩ := hx i (by omega)
      exact ⟨cs', n, _, h2, h3⟩)
    exact ⟨l, some a, cap, by rw [h1, hll], hc, by rw [hll]; omega⟩
theorem open_stp {fuel : Nat} {cs : List Value} {x : DataW H × List MemPlace} (h : DataW.trod enc Tryd.prog w base spare held fuel 65 cs = some x) : ∃ (v : Value) (y : Stp), cs = [v, .int .i64 y.2] ∧ SliceK w v y.1 := by
  obtain ⟨y0, y1, n, _, hl, h0, h1⟩ := trod_struct2 Tryd.underlying65 h
  rw [cellsOfStp] at hl
  obtain ⟨a, b, rfl⟩ := list2 hl
  rw [cellsOfInt] at h1
  rw [cellsOfSlk] at h0
  obtain ⟨i, e1, _, w0⟩ := DataW.trod_int Tryd.underlying3 h1
  obtain ⟨l, hv⟩ := open_slk (v := a) (by simpa using h0)
  simp at e1
  subst e1
  exact ⟨a, (l, i), rfl, hv⟩
theorem open_stps {a : Addr} {len : Nat} (h : ∀ i, i < len → ∃ cs' n x, w.cells? base (a.add (i * 2)) 2 = some cs' ∧ DataW.trod enc Tryd.prog w base spare held n 65 cs' = some x) : ∃ l : List Stp, l.length = len ∧ CellsP w (some a) l ∧ (0 < len → a.spot = none) := by
  have key : ∀ i, i < len → ∃ y : Value × Stp, w.cell? (a.add (i * 2)) = some y.1 ∧ w.cell? ((a.add (i * 2)).add 1) = some (.int .i64 y.2.2) ∧ SliceK w y.1 y.2.1 := fun i hi => by
    obtain ⟨cs', n, x, h1, h2⟩ := h i hi
    obtain ⟨v, y, rfl, hv⟩ := open_stp h2
    obtain ⟨_, _, hc⟩ := World.cells?_some h1
    have c0 := hc 0 (by omega)
    have c1 := hc 1 (by omega)
    refine ⟨(v, y), ?_, c1, hv⟩
    have e : (a.add (i * 2)).add 0 = a.add (i * 2) := by simp [Addr.add]
    rw [e] at c0
    exact c0
  obtain ⟨f, hf⟩ := choose_lt (α := Value × Stp) key
  have hs : 0 < len → a.spot = none := fun h0 => by
    have h0 := World.cell?_spot (hf 0 h0).1
    simpa [Addr.add] using h0
  refine ⟨(List.range len).map fun i => (f i).2, by simp, fun i hi => ?_, hs⟩
  have hi' : i < len := by simpa using hi
  obtain ⟨h1, h2, h3⟩ := hf i hi'
  have hp : ((List.range len).map fun i => (f i).2).getD i stp0 = (f i).2 := by simp [List.getD, hi']
  rw [hp]
  obtain ⟨b, off, spot⟩ := a
  have hs := hs (by omega)
  dsimp only at hs
  subst hs
  rw [Addr.add_lit] at h1 h2
  rw [Addr.add_lit] at h2
  exact ⟨b, off, _, rfl, h1, h3, h2⟩
theorem open_slp {fuel : Nat} {v : Value} {x : DataW H × List MemPlace} (h : DataW.trod enc Tryd.prog w base spare held fuel 22 [v] = some x) :
    ∃ (l : List Stp) (a : Option Addr) (cap : Nat), v = .slice a l.length cap ∧ CellsP w a l ∧ l.length ≤ maxLen ∧ Room a l.length cap := by
  rcases open_slice Tryd.underlying22 h with ⟨h1, _⟩ | ⟨a, len, cap, m, n, D, Pl, h1, hb, hl, hm, hmm, _, hx⟩
  · simp at h1
    exact ⟨[], none, 0, h1, fun i hi => by simp at hi, by simp, by simp, by simp, fun h0 => by simp at h0⟩
  · simp at h1
    rw [cellsOfStp] at hx
    have hlm : len ≤ m := by rw [hmm]; split <;> omega
    obtain ⟨l, hll, hc, hs⟩ := open_stps (enc := enc) (spare := spare) (held := held) (w := w) (base := base) (a := a) (len := len) (fun i hi => by
      obtain ⟨cs', h2, h3⟩ := hx i (by omega)
      exact ⟨cs', n, _, h2, h3⟩)
    refine ⟨l, some a, cap, by rw [h1, hll], hc, by rw [hll]; omega, by rw [hll]; exact hl, hm, fun h0 => ?_⟩
    obtain ⟨b, off, spot⟩ := a
    have := hs (by omega)
    dsimp only at this
    subst this
    exact ⟨b, off, rfl⟩
set_option maxRecDepth 100000 in
theorem open_seq {r : Reach} {b0 : Nat} {v : Value} {d : DataW H} {p : List MemPlace} (hv : Value.okWide Tryd.prog w r b0 24 v) (h : DataW.Trod enc Tryd.prog w base spare held 24 v d p) :
    ∃ (n : Int) (l : List Stp) (a : Option Addr) (cap : Nat), v = .agg #[.int .i64 n, .slice a l.length cap] ∧ CellsP w a l ∧ l.length ≤ maxLen ∧ Room a l.length cap ∧ (Lit.int .i64 n).wf = true := by
  obtain ⟨c0, c1, y0, y1, n, rfl, _, _, h0, h1⟩ := open_agg2 Tryd.underlying24 (by kernel_rfl) (by kernel_rfl) hv h
  obtain ⟨i, e0, _, w0⟩ := DataW.trod_int Tryd.underlying3 h0
  obtain ⟨l, a, cap, e1, hc, hl, hr⟩ := open_slp h1
  simp at e0
  subst e0; subst e1
  exact ⟨i, l, a, cap, rfl, hc, hl, hr, w0⟩
end
end Go.Proofs.YtdolibeceijnnaaDoor
namespace Go.Proofs.YtdolibeceijnnaaDoor
open Go.RowKit Go.ChangeShapes Go.WideShapes Go.Joins Go.Deep
section
variable {H : Type} {enc : TypeId × Value → H} {w : World} {base : Nat} {spare : Nat → Bool} {held : Bool}
set_option maxRecDepth 100000 in
theorem open_u8 {r : Reach} {b0 : Nat} {v : Value} {d : DataW H} {p : List MemPlace} (hv : Value.okWide Tryd.prog w r b0 5 v) (h : DataW.Trod enc Tryd.prog w base spare held 5 v d p) :
    ∃ i : Int, v = .int .u8 i ∧ 0 ≤ i ∧ i ≤ 255 := by
  have key : v.cells.toList = [v] := by
    simp only [Value.okWide, Tryd.underlying5] at hv
    cases v <;> first | rfl | (simp [Cell.okWide, Cell.ok, Tryd.underlying5] at hv)
  obtain ⟨fuel, hf⟩ := h
  rw [key] at hf
  obtain ⟨i, e0, _, w0⟩ := DataW.trod_int Tryd.underlying5 hf
  simp at e0
  refine ⟨i, e0, ?_⟩
  simp [Lit.wf] at w0
  have h1 : IntKind.u8.min = 0 := by decide
  have h2 : IntKind.u8.max = 255 := by decide
  rw [h1, h2] at w0
  exact w0
end
end Go.Proofs.YtdolibeceijnnaaDoor
namespace Go.Proofs.YtdolibeceijnnaaDoor
open Go.ChangeShapes Go.WideShapes Go.ChangeAt Go.RowKit
theorem ownG : ownKnob Tryd.prog.godebug = none := by kernel_rfl
theorem gTab : Tryd.prog.globalNamed "pneumatic/group.bits" = some 0 := by kernel_rfl
theorem gTabT : (Tryd.prog.globals[0]?).map (·.type) = some 105 := by kernel_rfl
theorem cellsTab : Tryd.prog.cellsOf 105 = 6 := by kernel_rfl
theorem cellsU : Tryd.prog.cellsOf 76 = 1 := by kernel_rfl
def bitsTab : List Int := [1, 2, 4, 8, 16, 32]
theorem bits_of {W : World} (hL : laidMetH Tryd.prog Rows.topGroupsJoinRow.laid W) : GBits W := by
  have hP : laidMet Tryd.prog Rows.topGroupsJoinRow.laid W := by
    rw [← MakeChecks.laidMetH_plain _ _ _ (by kernel_rfl)]; exact hL
  have hT : Lib.TabIs Tryd.prog W "pneumatic/group.bits" .u64 bitsTab := Lib.tabIs_of_head gTab gTabT Tryd.underlying105 Tryd.underlying76 cellsU cellsTab hP
  intro i hi
  have h := Lib.TabIs.cell hT gTab i (by unfold bitsTab; simpa using hi)
  rw [h]
  have : i = 0 ∨ i = 1 ∨ i = 2 ∨ i = 3 ∨ i = 4 ∨ i = 5 := by omega
  rcases this with rfl | rfl | rfl | rfl | rfl | rfl <;> rfl
def flatD : Nat → DataW Unit → List Value
  | _ + 1, .lit (.int k z) => [.int k z]
  | n + 1, .agg ds => ds.flatMap (flatD n)
  | _, _ => []
def putC (cs : List Value) : Obj → Obj
  | .cells _ t frozen => .cells ⟨cs⟩ t frozen
  | o => o
noncomputable def laidWorld (os : Os) : World :=
  let w0 := World.holding Tryd.prog os ⟨#[], #[], []⟩
  { w0 with heap := w0.heap.modify 0 (putC (flatD 3 Rows.laid_pneumatic_group_bits)) }
theorem laid_met (os : Os) (args : Array Value) : laidMet Tryd.prog Rows.topGroupsJoinRow.laid ((laidWorld os).forCall (fun _ _ => 0) ⟨#[], args, []⟩).memory :=
  laidMet_of_run' 8 (by kernel_rfl) (by kernel_rfl)
end Go.Proofs.YtdolibeceijnnaaDoor
namespace Go.Proofs.YtdolibeceijnnaaDoor
open Go.RowKit
theorem wordL_succ {l : List Stp} {k : Nat} (h : k < l.length) : wordL (l.take (k + 1)) = wordL (l.take k) ++ (l.getD k stp0).1 := by
  unfold wordL
  rw [List.take_succ_eq_append_getElem h, List.flatMap_append, List.getD_eq_getElem?_getD, List.getElem?_eq_getElem h]
  simp
theorem wordL_len {n : Int} {l : List Stp} (h : Fine n l) : ∀ k, k ≤ l.length → (wordL (l.take k)).length ≤ 6 * k := by
  intro k
  induction k with
  | zero => intro _; simp [wordL]
  | succ k ih =>
    intro hk
    have := ih (by omega)
    have h2 := (ckStep_strokes (h k (by omega)).1).2.1
    rw [wordL_succ (by omega), List.length_append]
    omega
theorem ownsK_app {w : World} {v : Value} {l m : List Stk} (h : w.ownsRow 0 67 2 v (l.length + m.length) (flatK l ++ flatK m)) : OwnsK w v (l ++ m) := by
  unfold OwnsK
  rw [List.length_append, flatK_append]; exact h
set_option maxHeartbeats 8000000 in
set_option maxRecDepth 100000 in
theorem Word_any (n : Int) (l : List Stp) (a : Option Addr) (cap : Nat) (w : World) (hl : l.length ≤ maxLen) (hc : CellsP w a l) :
    Calls Tryd.prog 20 #[.agg #[.int .i64 n, .slice a l.length cap]] w fun e w' => ∃ v, e = .returned (.tuple #[v, .int .i64 (ckSeq (n, l))]) ∧ OwnsK w' v (if ckSeq (n, l) = 0 then wordL l else []) ∧ (∀ b, v.ownBlock = some b → w.heap.size ≤ b) ∧ Ext w w' := by
  have HC := Lib.hid hc
  have HL := Lib.hid hl
  obtain ⟨er, her⟩ : ∃ er, er = ckSeq (n, l) := ⟨_, rfl⟩
  obtain ⟨R, hR⟩ : ∃ R, R = if er = 0 then wordL l else [] := ⟨_, rfl⟩
  rw [← her, ← hR]
  have HER := Lib.hid her
  have HR := Lib.hid hR
  clear hc her hR hl
  obtain ⟨i0, hi, hi0, hi1, hi2⟩ := info_parts infoStk
  go_enter Tryd.func20, Tryd.ntmps20
  go_wp2_with fail
  have E1 : Ext w (w.alloc (.cells #[.int .i64 n, .slice a l.length cap] 24)) := extA
  have c0 : ((w.alloc (.cells #[.int .i64 n, .slice a l.length cap] 24))).cell? ⟨w.heap.size, 0, none⟩ = some (.int .i64 n) := by go_simp
  have c1 : ((w.alloc (.cells #[.int .i64 n, .slice a l.length cap] 24))).cell? ⟨w.heap.size, 1, none⟩ = some (.slice a l.length cap) := by go_simp
  generalize (w.alloc (.cells #[.int .i64 n, .slice a l.length cap] 24)) = W at E1 c0 c1 ⊢
  refine (Check_any n l a cap _ HL.out (HC.out.ext E1)).mono ?_
  rintro e w1 ⟨rfl, hE⟩
  rw [← HER.out]
  have E2 := E1.trans hE
  have c0 := (hE).cell c0
  have c1 := (hE).cell c1
  clear hE
  by_cases h0 : er = 0
  · subst h0
    have hck := HER.out.symm
    obtain ⟨hN1, hN6, hl0, hl64, hwk, _, _⟩ := ckSeq_zero hck
    have HFI := Lib.hid (ckWalk_fine hwk)
    have hR := HR.out
    rw [if_pos rfl] at hR
    have HRR : Hid (wordL (l.take l.length) = R) := by show _ = _; rw [List.take_length]; exact hR.symm
    have zw := cell_lt c0
    dsimp only at zw
    clear hck hwk HER HR hR
    go_wp2
    go_loopw [16, 5] (fun i v wr => ∃ k : Nat, k ≤ l.length ∧ i = .int .i64 k ∧ (∃ vv, v = vv ∧ Hid (OwnsK wr vv (wordL (l.take k)) ∧ ∀ b, vv.ownBlock = some b → w1.heap.size ≤ b)) ∧ Ext w1 wr) (fun i _ _ => l.length - (intOf i).toNat)
    case atStart => exact ⟨0, Nat.zero_le _, rfl, ⟨_, rfl, OwnsK.nil _, fun b hb => by cases hb⟩, Ext.refl _⟩
    case round =>
      obtain ⟨k, hk, rfl, ⟨vv, hvv, hO⟩, he⟩ := hrel
      obtain rfl := hvv.symm
      have E3 := E2.trans he
      by_cases hlt : k < l.length
      · obtain ⟨b, off, v, ha, p1, hv, p2⟩ := HC.out k hlt
        subst ha
        have HFK := HFI.out k hlt
        have hst := ckStep_strokes HFK.1
        have hst6 := hst.2.1
        have hst0 := hst.2.2.1
        have HWS := Lib.hid (wordL_succ hlt)
        have hwl := wordL_len HFI.out k (by omega)
        obtain ⟨sa, sc, rfl, hcs, hls⟩ := hv
        have p1 := E3.cell p1
        have p2 := E3.cell p2
        generalize l.getD k stp0 = x at p1 p2 hcs hls HWS hst6 hst0
        obtain ⟨st, wj⟩ := x
        dsimp only at p1 p2 hcs hls HWS hst6 hst0
        obtain ⟨kb, ko, ha, _, _⟩ := hcs 0 hst0
        subst ha
        have HCS := Lib.hid hcs
        have O2 := Lib.hid hO.out.1
        have OB := Lib.hid hO.out.2
        have hsz := he.size
        have zb := cell_lt p1
        dsimp only at zb
        clear hcs hls hO HFK hst
        generalize wordL (l.take k) = P at O2 HWS hwl
        have ES : Ext wr (wr.alloc (.cells #[.slice (some ⟨kb, ko, none⟩) st.length sc, .int .i64 wj] 65)) := extA
        have hO5 : Hid (OwnsK (wr.alloc (.cells #[.slice (some ⟨kb, ko, none⟩) st.length sc, .int .i64 wj] 65)) vv P) := O2.out.ext ES
        have hfl : Hid (∀ j u, (flatK st)[j]? = some u → (wr.alloc (.cells #[.slice (some ⟨kb, ko, none⟩) st.length sc, .int .i64 wj] 65)).cell? ((⟨kb, ko, none⟩ : Addr).add j) = some u) := fun j u hu => (HCS.out.ext (E3.trans ES)).flat j u hu
        go_wp2_with (at_builtin; refine wpList_append1 _ rfl _ _ 45 rfl 67 i0 (.agg #[.int .i64 0, .bool false]) 2 16 Tryd.underlying45 hi hi0 hi1 hi2 rfl (by decide) vv P.length (flatK P) rfl hO5.out ⟨kb, ko, none⟩ st.length sc hst0 (flatK st) rfl (flatK_length st) hfl.out (flatK_one st) ?c2 ?c3 ?c4)
        case c2 => unfold maxLen; omega
        case c3 => omega
        case c4 =>
          intro v' w5 hown5 hend5
          have O5 : Hid (OwnsK w5 v' (wordL (l.take (k + 1)))) := by show OwnsK _ _ _; rw [HWS.out]; exact ownsK_app hown5
          have B5 : Ext w1 w5 := (he.trans ES).trans' (hend5.below (n := w1.heap.size) (by simp; omega) OB.out) (Nat.le_refl _)
          have OB5 : Hid (∀ b, v'.ownBlock = some b → w1.heap.size ≤ b) := hend5.ge (n := w1.heap.size) (by simp; omega) OB.out
          clear hown5 hend5 O2 OB HWS hO5 hfl
          go_wp2
          refine ⟨⟨k + 1, by omega, by go_num, ⟨v', rfl, O5.out, OB5.out⟩, B5⟩, by simp [intOf]; omega⟩
      · have hke : k = l.length := by omega
        subst hke
        have hO1 := hO.out.1
        rw [HRR.out] at hO1
        have HO1 := Lib.hid hO1
        have HO2 := Lib.hid hO.out.2
        have hsz := E2.size
        clear hO hO1
        go_wp2
        go_ret2
        exact ⟨_, rfl, HO1.out, fun b hb => by have := HO2.out b hb; omega, E3⟩
  · have hn : (er != 0) = true := by simp [h0]
    have hR := HR.out
    rw [if_neg h0] at hR
    subst hR
    clear h0 HER HR
    go_wp2
    go_ret2
    exact ⟨.slice none 0 0, rfl, OwnsK.nil _, (fun b hb => by cases hb), E2⟩
def facGo (o : Int) (k : Nat) : Nat → Int
  | 0 => o
  | r + 1 => if 1048576 < o * ((k : Int) + 1) then 0 else facGo (o * ((k : Int) + 1)) (k + 1) r
def wordsGo (o : Int) : List Nat → Int
  | [] => o
  | m :: ms => if facGo o 0 m = 0 then 0 else wordsGo (facGo o 0 m) ms
def lens (l : List Stp) : List Nat := l.map fun x => x.1.length
def wordsN (s : Sq) : Int := if ckSeq s = 0 then wordsGo 1 (lens s.2) else 0
def wordsE (s : Sq) : Int := if ckSeq s = 0 then (if wordsGo 1 (lens s.2) = 0 then 12 else 0) else ckSeq s
theorem facGo_succ {o : Int} {j m : Nat} (h : j < m) {P : Int} (e : facGo o j (m - j) = P) : (1048576 < o * ((j : Int) + 1) → P = 0) ∧ (¬ 1048576 < o * ((j : Int) + 1) → facGo (o * ((j : Int) + 1)) (j + 1) (m - (j + 1)) = P) := by
  rw [show m - j = (m - (j + 1)) + 1 from by omega] at e
  unfold facGo at e
  refine ⟨fun h1 => ?_, fun h1 => ?_⟩
  · rw [if_pos h1] at e; exact e.symm
  · rw [if_neg h1] at e; exact e
theorem wordsGo_drop {o : Int} {l : List Stp} {k : Nat} (h : k < l.length) {R : Int} (e : wordsGo o (lens (l.drop k)) = R) : (facGo o 0 (l.getD k stp0).1.length = 0 → R = 0) ∧ (facGo o 0 (l.getD k stp0).1.length ≠ 0 → wordsGo (facGo o 0 (l.getD k stp0).1.length) (lens (l.drop (k + 1))) = R) := by
  rw [drop_cons l stp0 h] at e
  unfold lens at e ⊢
  rw [List.map_cons] at e
  unfold wordsGo at e
  refine ⟨fun h1 => ?_, fun h1 => ?_⟩
  · rw [if_pos h1] at e; exact e.symm
  · rw [if_neg h1] at e; exact e
set_option maxHeartbeats 8000000 in
set_option maxRecDepth 100000 in
theorem Words_any (n : Int) (l : List Stp) (a : Option Addr) (cap : Nat) (w : World) (hl : l.length ≤ maxLen) (hc : CellsP w a l) :
    Calls Tryd.prog 22 #[.agg #[.int .i64 n, .slice a l.length cap]] w fun e w' => e = .returned (.tuple #[.int .i64 (wordsN (n, l)), .int .i64 (wordsE (n, l))]) ∧ Ext w w' := by
  have HC := Lib.hid hc
  have HL := Lib.hid hl
  obtain ⟨er, her⟩ : ∃ er, er = ckSeq (n, l) := ⟨_, rfl⟩
  obtain ⟨wn, hwn⟩ : ∃ wn, wn = wordsN (n, l) := ⟨_, rfl⟩
  obtain ⟨we, hwe⟩ : ∃ we, we = wordsE (n, l) := ⟨_, rfl⟩
  rw [← hwn, ← hwe]
  have HER := Lib.hid her
  have HWN := Lib.hid (And.intro hwn hwe)
  clear hc her hwn hwe hl
  go_enter Tryd.func22, Tryd.ntmps22
  go_wp2_with fail
  have E1 : Ext w (w.alloc (.cells #[.int .i64 n, .slice a l.length cap] 24)) := extA
  have c0 : ((w.alloc (.cells #[.int .i64 n, .slice a l.length cap] 24))).cell? ⟨w.heap.size, 0, none⟩ = some (.int .i64 n) := by go_simp
  have c1 : ((w.alloc (.cells #[.int .i64 n, .slice a l.length cap] 24))).cell? ⟨w.heap.size, 1, none⟩ = some (.slice a l.length cap) := by go_simp
  generalize (w.alloc (.cells #[.int .i64 n, .slice a l.length cap] 24)) = W at E1 c0 c1 ⊢
  refine (Check_any n l a cap _ HL.out (HC.out.ext E1)).mono ?_
  rintro e w1 ⟨rfl, hE⟩
  rw [← HER.out]
  have E2 := E1.trans hE
  have c0 := (hE).cell c0
  have c1 := (hE).cell c1
  clear hE
  by_cases h0 : er = 0
  · subst h0
    have hck := HER.out.symm
    obtain ⟨hN1, hN6, hl0, hl64, hwk, _, _⟩ := ckSeq_zero hck
    have HFI := Lib.hid (ckWalk_fine hwk)
    obtain ⟨R, hR⟩ : ∃ R, R = wordsGo 1 (lens l) := ⟨_, rfl⟩
    have hn1 : wn = R := by rw [HWN.out.1]; unfold wordsN; rw [if_pos hck, hR]
    have he1 : we = if R = 0 then 12 else 0 := by rw [HWN.out.2]; unfold wordsE; rw [if_pos hck, hR]
    subst hn1
    have HWE := Lib.hid he1
    have R0 : Hid (wordsGo 1 (lens (l.drop 0)) = wn) := hR.symm
    have zw := cell_lt c0
    dsimp only at zw
    clear hck hwk HER HWN hR he1
    go_wp2
    go_loopw [17, 5] (fun i v wr => ∃ k : Nat, k ≤ l.length ∧ i = .int .i64 k ∧ (∃ o : Int, v = .int .i64 o ∧ 1 ≤ o ∧ o ≤ 1048576 ∧ Hid (wordsGo o (lens (l.drop k)) = wn)) ∧ Ext w1 wr) (fun i _ _ => l.length - (intOf i).toNat)
    case atStart => exact ⟨0, Nat.zero_le _, rfl, ⟨1, rfl, by omega, by omega, R0⟩, Ext.refl _⟩
    case round =>
      obtain ⟨k, hk, rfl, ⟨o, rfl, ho1, ho2, hz⟩, he⟩ := hrel
      clear R0
      have E3 := E2.trans he
      by_cases hlt : k < l.length
      · obtain ⟨b, off, v, ha, p1, hv, p2⟩ := HC.out k hlt
        subst ha
        have hst6 := (ckStep_strokes (HFI.out k hlt).1).2.1
        have HZ := Lib.hid (wordsGo_drop hlt hz.out)
        obtain ⟨sa, sc, rfl, hcs, hls⟩ := hv
        have p1 := E3.cell p1
        have p2 := E3.cell p2
        generalize l.getD k stp0 = x at p1 p2 hcs hls HZ hst6
        obtain ⟨st, wj⟩ := x
        dsimp only at p1 p2 hcs hls HZ hst6
        have zb := cell_lt p1
        dsimp only at zb
        obtain ⟨P, hP⟩ : ∃ P, P = facGo o 0 st.length := ⟨_, rfl⟩
        rw [← hP] at HZ
        have F0 : Hid (facGo o 0 (st.length - 0) = P) := hP.symm
        have EB : Ext wr (wr.alloc (.cells #[.slice sa st.length sc, .int .i64 wj] 65)) := extA
        clear hcs hls hz hP
        go_wp2
        have E4 := he.trans EB
        generalize (wr.alloc (.cells #[.slice sa st.length sc, .int .i64 wj] 65)) = W5 at E4 ⊢
        clear EB
        go_loopw [24, 5] (fun i v wr => ∃ j : Nat, j ≤ st.length ∧ i = .int .i64 j ∧ (∃ o : Int, v = .int .i64 o ∧ 1 ≤ o ∧ o ≤ 1048576 ∧ Hid (facGo o j (st.length - j) = P)) ∧ wr = W5) (fun i _ _ => st.length - (intOf i).toNat)
        case atStart => exact ⟨0, by omega, rfl, ⟨o, rfl, ho1, ho2, F0⟩, rfl⟩
        case round =>
          obtain ⟨j, hj, rfl, ⟨q, rfl, hq1, hq2, hf⟩, rfl⟩ := hrel
          clear F0
          by_cases hjl : j < st.length
          · have HS := Lib.hid (facGo_succ hjl hf.out)
            have hpos : 1 ≤ q * ((j : Int) + 1) := by
              have : q * 1 ≤ q * ((j : Int) + 1) := Int.mul_le_mul_of_nonneg_left (by omega) (by omega)
              omega
            have hup : q * ((j : Int) + 1) ≤ 1048576 * 7 := by
              have h1 : q * ((j : Int) + 1) ≤ q * 7 := Int.mul_le_mul_of_nonneg_left (by omega) (by omega)
              omega
            have g1 : IntKind.i64.wrap ((j : Int) + 1) = (j : Int) + 1 := IntWalk.i64_in _ (by omega)
            have g2 : IntKind.i64.wrap (q * ((j : Int) + 1)) = q * ((j : Int) + 1) := IntWalk.i64_in _ (by omega)
            obtain ⟨r, hr⟩ : ∃ r, r = q * ((j : Int) + 1) := ⟨_, rfl⟩
            rw [← hr] at HS hpos hup
            have g2 : IntKind.i64.wrap (q * ((j : Int) + 1)) = r := by rw [g2, hr]
            have HRQ := Lib.hid hr
            clear hf hr
            by_cases hov : 1048576 < r
            · have hP := HS.out.1 hov
              have hw := HZ.out.1 hP
              have hwe := HWE.out
              rw [if_pos hw] at hwe
              subst hw
              subst hwe
              clear HZ HS HWE hP
              go_wp2
              go_ret2
              exact ⟨rfl, E2.trans E4⟩
            · have HS2 := Lib.hid (HS.out.2 hov)
              have hov2 : r ≤ 1048576 := by omega
              clear HS
              go_wp2
              refine ⟨⟨j + 1, by omega, by go_num, ⟨r, by rw [HRQ.out], hpos, hov2, HS2⟩, trivial⟩, by simp [intOf]; omega⟩
          · have hje : j = st.length := by omega
            have hfo := hf.out
            rw [hje, Nat.sub_self] at hfo
            have hfo : q = P := hfo
            subst hfo
            have HZ2 := Lib.hid (HZ.out.2 (by omega))
            clear hf HZ
            go_wp2
            refine ⟨⟨k + 1, by omega, by go_num, ⟨q, rfl, hq1, hq2, HZ2⟩, E4⟩, by simp [intOf]; omega⟩
      · have hke : k = l.length := by omega
        have hz2 := hz.out
        rw [List.drop_eq_nil_of_le (by omega)] at hz2
        have hz2 : o = wn := hz2
        subst hz2
        have hwe := HWE.out
        rw [if_neg (by omega)] at hwe
        subst hwe
        clear hz HWE
        go_wp2
        go_ret2
        exact ⟨rfl, E3⟩
  · have hn : (er != 0) = true := by simp [h0]
    have h2 : ¬ ckSeq (n, l) = 0 := fun h => h0 (HER.out.trans h)
    have hn1 : wn = 0 := by rw [HWN.out.1]; unfold wordsN; rw [if_neg h2]
    have he1 : we = er := by rw [HWN.out.2]; unfold wordsE; rw [if_neg h2]; exact HER.out.symm
    subst hn1
    subst he1
    clear h0 h2 HER HWN
    go_wp2
    go_ret2
    exact ⟨rfl, E2⟩
end Go.Proofs.YtdolibeceijnnaaDoor
namespace Go.Proofs.YtdolibeceijnnaaDoor
theorem merge_facts {m : Int} {l : List Stp} (h : Right m l) {k : Nat} (hk : mergeE (m, l) (k : Int) = 0) : k + 1 < l.length ∧ apart (lin l k) (lin l (k + 1)) = true := by
  have hlt := (merged_right h hk).2.2.1
  refine ⟨hlt, ?_⟩
  unfold mergeE at hk
  rw [if_neg (by simp [h.ck])] at hk
  dsimp only at hk
  rw [if_neg (by omega), Int.toNat_natCast] at hk
  cases hq : apart (lin l k) (lin l (k + 1))
  · unfold lin stp0 at hq
    rw [hq] at hk
    simp at hk
  · rfl
theorem merged_at (m : Int) {l : List Stp} {k : Nat} (hk : k + 1 < l.length) (p : Nat) : lin (merged (m, l) k).2 p = if p < k then lin l p else if p = k then (ordered ((lin l k).1 ++ (lin l (k + 1)).1), (lin l (k + 1)).2) else lin l (p + 1) := by
  unfold merged lin
  dsimp only
  rw [List.getD_eq_getElem?_getD]
  by_cases h1 : p < k
  · rw [if_pos h1, List.getElem?_append_left (by rw [List.length_take]; omega), List.getElem?_take_of_lt h1, ← List.getD_eq_getElem?_getD]
  · rw [if_neg h1, List.getElem?_append_right (by rw [List.length_take]; omega), List.length_take, Nat.min_eq_left (by omega)]
    by_cases h2 : p = k
    · rw [if_pos h2, h2, Nat.sub_self]; rfl
    · rw [if_neg h2, show p - k = (p - k - 1) + 1 by omega, List.getElem?_cons_succ, List.getElem?_drop, ← List.getD_eq_getElem?_getD, show k + 2 + (p - k - 1) = p + 1 by omega]
theorem merged_mem {m : Int} {l : List Stp} (h : Right m l) {k : Nat} (hk : k + 1 < l.length) (p : Nat) (y : Stk) : y ∈ (lin (merged (m, l) k).2 p).1 ↔ ∃ q, y ∈ (lin l q).1 ∧ (if q ≤ k then q else q - 1) = p := by
  rw [merged_at m hk]
  by_cases h1 : p < k
  · rw [if_pos h1]
    refine ⟨fun hy => ⟨p, hy, by rw [if_pos (by omega)]⟩, fun ⟨q, hy, e⟩ => ?_⟩
    by_cases hq : q ≤ k
    · rw [if_pos hq] at e; rw [← e]; exact hy
    · rw [if_neg hq] at e; omega
  · rw [if_neg h1]
    by_cases h2 : p = k
    · rw [if_pos h2]
      dsimp only
      rw [ordered_mem, List.mem_append]
      have fine : ∀ q, q < l.length → ∀ z ∈ (lin l q).1, 0 ≤ z.1 ∧ z.1 < 6 := fun q hq z hz => by
        have e : lin l q = l[q] := by unfold lin; simp [List.getD, hq]
        rw [e] at hz
        have := (h.fine _ (List.getElem_mem hq)).2 z hz
        have hm := h.act
        unfold In at this
        omega
      constructor
      · rintro ⟨hy | hy, _⟩
        · exact ⟨k, hy, by rw [if_pos (Nat.le_refl _)]; exact h2.symm⟩
        · exact ⟨k + 1, hy, by rw [if_neg (by omega)]; omega⟩
      · rintro ⟨q, hy, e⟩
        by_cases hq : q ≤ k
        · rw [if_pos hq] at e
          have : q = k := by omega
          subst this
          exact ⟨.inl hy, fine q (by omega) y hy⟩
        · rw [if_neg hq] at e
          have : q = k + 1 := by omega
          subst this
          exact ⟨.inr hy, fine _ hk y hy⟩
    · rw [if_neg h2]
      refine ⟨fun hy => ⟨p + 1, hy, by rw [if_neg (by omega)]; omega⟩, fun ⟨q, hy, e⟩ => ?_⟩
      by_cases hq : q ≤ k
      · rw [if_pos hq] at e; omega
      · rw [if_neg hq] at e; rw [show p + 1 = q by omega]; exact hy
theorem merged_okF {m : Int} {l : List Stp} (h : Right m l) {k : Nat} (hk : k + 1 < l.length) (ha : apart (lin l k) (lin l (k + 1)) = true) (i j : Nat) : okF (lin (merged (m, l) k).2) i j = okF (lin l) (atM k i) (atM k j) := by
  refine bool_iff ?_
  rw [okF_iff, okF_iff]
  refine ⟨fun e p q h1 h2 h3 => ?_, fun e p q h1 h2 h3 => ?_⟩
  · by_cases hpq : p = k ∧ q = k + 1
    · rw [hpq.1, hpq.2]; exact ha
    · have := e (if p ≤ k then p else p - 1) (if q ≤ k then q else q - 1) (by unfold atM at h1; revert h1; split <;> split <;> omega) (by split <;> split <;> omega) (by unfold atM at h3; revert h3; split <;> split <;> omega)
      rw [apart_iff] at this ⊢
      exact fun y hy z hz => this y ((merged_mem h hk _ _).2 ⟨p, hy, rfl⟩) z ((merged_mem h hk _ _).2 ⟨q, hz, rfl⟩)
  · rw [apart_iff]
    intro y hy z hz
    obtain ⟨p', hy', e1⟩ := (merged_mem h hk _ _).1 hy
    obtain ⟨q', hz', e2⟩ := (merged_mem h hk _ _).1 hz
    have hpq : p' < q' := by revert e1 e2; split <;> split <;> omega
    have g1 : atM k i ≤ p' := by unfold atM; revert e1; split <;> split <;> omega
    have g2 : q' < atM k j := by unfold atM; revert e2; split <;> split <;> omega
    exact apart_iff.1 (e p' q' g1 hpq g2) y hy' z hz'
theorem merged_groups {m : Int} {l : List Stp} (h : Right m l) {k : Nat} (hk : mergeE (m, l) (k : Int) = 0) : grpN l ≤ grpN (merged (m, l) k).2 ∧ grpN (merged (m, l) k).2 ≤ grpN l + 1 := by
  obtain ⟨hlt, ha⟩ := merge_facts h hk
  have hlen := (merged_right h hk).2.1
  have g1 := grp_greedy (l := l) (by omega)
  have g2 := grp_greedy (l := (merged (m, l) k).2) (by omega)
  rw [hlen] at g2
  rw [show l.length = (l.length - 1) + 1 by omega] at g1
  refine merge_groups (q := k) (n := l.length - 1) (okF_her _) (okF_her _) (merged_okF h hlt ha) ?_ (by omega) g1 g2
  rw [okF_iff]
  intro p q h1 h2 h3
  obtain rfl : p = k := by omega
  obtain rfl : q = p + 1 := by omega
  exact ha
def fpS : Nat → Nat → Int
  | _, 0 => 1
  | k, r + 1 => ((k : Int) + 1) * fpS (k + 1) r
def prodF : List Nat → Int
  | [] => 1
  | m :: ms => fpS 0 m * prodF ms
theorem fp_pos : ∀ r k, 0 < fpS k r := by
  intro r
  induction r with
  | zero => intro k; unfold fpS; omega
  | succ r ih => intro k; unfold fpS; exact Int.mul_pos (by omega) (ih _)
theorem fp_mono : ∀ r k, fpS k r ≤ fpS (k + 1) r := by
  intro r
  induction r with
  | zero => intro k; unfold fpS; omega
  | succ r ih =>
    intro k
    unfold fpS
    exact Int.mul_le_mul (by omega) (ih _) (Int.le_of_lt (fp_pos _ _)) (by omega)
theorem fp_lt {r k : Nat} (hr : 0 < r) : fpS k r < fpS (k + 1) r := by
  obtain ⟨s, rfl⟩ : ∃ s, r = s + 1 := ⟨r - 1, by omega⟩
  unfold fpS
  have h1 := fp_mono s (k + 1)
  have h2 := fp_pos s (k + 1)
  have h3 := Int.mul_le_mul_of_nonneg_left h1 (show 0 ≤ (((k + 1 : Nat) : Int) + 1) by omega)
  have h4 : (((k + 1 : Nat) : Int) + 1) * fpS (k + 1) s = ((k : Int) + 1) * fpS (k + 1) s + fpS (k + 1) s := by
    rw [show (((k + 1 : Nat) : Int) + 1) = ((k : Int) + 1) + 1 by omega, Int.add_mul, Int.one_mul]
  omega
theorem fp_far {r a : Nat} (hr : 0 < r) (ha : 0 < a) : fpS 0 r < fpS a r := by
  induction a with
  | zero => omega
  | succ a ih =>
    by_cases h0 : a = 0
    · subst h0; exact fp_lt hr
    · exact Int.lt_trans (ih (by omega)) (fp_lt hr)
theorem fp_add : ∀ a k b, fpS k (a + b) = fpS k a * fpS (k + a) b := by
  intro a
  induction a with
  | zero => intro k b; rw [Nat.zero_add, Nat.add_zero]; conv => rhs; lhs; unfold fpS
            rw [Int.one_mul]
  | succ a ih =>
    intro k b
    rw [show a + 1 + b = (a + b) + 1 by omega]
    show ((k : Int) + 1) * fpS (k + 1) (a + b) = ((k : Int) + 1) * fpS (k + 1) a * fpS (k + (a + 1)) b
    rw [ih (k + 1) b, Int.mul_assoc, show k + 1 + a = k + (a + 1) by omega]
theorem facGo_val : ∀ r (o : Int) k, facGo o k r ≠ 0 → facGo o k r = o * fpS k r := by
  intro r
  induction r with
  | zero => intro o k _; unfold facGo fpS; rw [Int.mul_one]
  | succ r ih =>
    intro o k h
    unfold facGo at h ⊢
    split at h
    · exact absurd rfl h
    · rename_i hc
      rw [if_neg hc, ih _ _ h]
      conv => rhs; unfold fpS
      rw [Int.mul_assoc]
theorem wordsGo_val : ∀ (ms : List Nat) (o : Int), wordsGo o ms ≠ 0 → wordsGo o ms = o * prodF ms := by
  intro ms
  induction ms with
  | nil => intro o _; unfold wordsGo prodF; rw [Int.mul_one]
  | cons m ms ih =>
    intro o h
    unfold wordsGo at h ⊢
    split at h
    · exact absurd rfl h
    · rename_i hc
      rw [if_neg hc, ih _ h, facGo_val _ _ _ hc, Int.mul_assoc]
      conv => rhs; unfold prodF
theorem prodF_pos : ∀ ms : List Nat, 0 < prodF ms := by
  intro ms
  induction ms with
  | nil => unfold prodF; omega
  | cons m ms ih => unfold prodF; exact Int.mul_pos (fp_pos _ _) ih
theorem prodF_append : ∀ l q : List Nat, prodF (l ++ q) = prodF l * prodF q := by
  intro l q
  induction l with
  | nil => rw [List.nil_append]; conv => rhs; lhs; unfold prodF
           rw [Int.one_mul]
  | cons m ms ih => rw [List.cons_append]; show fpS 0 m * prodF (ms ++ q) = fpS 0 m * prodF ms * prodF q; rw [ih, Int.mul_assoc]
theorem merged_lens {m : Int} {l : List Stp} (h : Right m l) {k : Nat} (hk : mergeE (m, l) (k : Int) = 0) : lens (merged (m, l) k).2 = lens (l.take k) ++ ((lin l k).1.length + (lin l (k + 1)).1.length) :: lens (l.drop (k + 2)) ∧ 0 < (lin l k).1.length ∧ 0 < (lin l (k + 1)).1.length := by
  obtain ⟨hlt, ha⟩ := merge_facts h hk
  have e1 : ∀ q, q < l.length → lin l q ∈ l := fun q hq => by
    have e : lin l q = l[q] := by unfold lin; simp [List.getD, hq]
    rw [e]; exact List.getElem_mem hq
  have f1 := h.fine _ (e1 k (by omega))
  have f2 := h.fine _ (e1 (k + 1) hlt)
  have pos : ∀ x : Stp, ckStep x = 0 → 0 < x.1.length := fun x hx => by
    unfold ckStep at hx
    split at hx
    · cases hx
    · omega
  have hd : Diff ((lin l k).1 ++ (lin l (k + 1)).1) := apart_diff (sa := (lin l k).1) (wa := (lin l k).2) (sb := (lin l (k + 1)).1) (wb := (lin l (k + 1)).2) f1.1 f2.1 ha
  have hlen : (ordered ((lin l k).1 ++ (lin l (k + 1)).1)).length = (lin l k).1.length + (lin l (k + 1)).1.length := by
    rw [← List.length_append]
    have hr : ∀ y ∈ (lin l k).1 ++ (lin l (k + 1)).1, 0 ≤ y.1 ∧ y.1 < 6 := fun y hy => by
      have hm := h.act
      rcases List.mem_append.1 hy with hy | hy
      · have := f1.2 y hy; unfold In at this; omega
      · have := f2.2 y hy; unfold In at this; omega
    rw [← isortK_ordered hd hr, isortK_length]
  refine ⟨?_, pos _ f1.1, pos _ f2.1⟩
  unfold merged lens
  dsimp only
  rw [List.map_append, List.map_cons]
  congr 2
theorem merged_words {m : Int} {l : List Stp} (h : Right m l) {k : Nat} (hk : mergeE (m, l) (k : Int) = 0) : wordsE (m, l) ≠ 0 ∨ wordsE (merged (m, l) k) ≠ 0 ∨ wordsN (m, l) < wordsN (merged (m, l) k) := by
  have hr := (merged_right h hk).1
  have e0 : merged (m, l) k = (m, (merged (m, l) k).2) := rfl
  obtain ⟨h1, h2, h3⟩ := merged_lens h hk
  obtain ⟨hlt, _⟩ := merge_facts h hk
  have hl : lens l = lens (l.take k) ++ (lin l k).1.length :: (lin l (k + 1)).1.length :: lens (l.drop (k + 2)) := by
    conv => lhs; rw [← List.take_append_drop k l, drop_cons l stp0 (by omega : k < l.length), drop_cons l stp0 hlt]
    unfold lens lin
    rw [List.map_append, List.map_cons, List.map_cons]
  unfold wordsE wordsN
  rw [if_pos h.ck, if_pos h.ck, e0, if_pos hr.ck, if_pos hr.ck]
  dsimp only
  by_cases c1 : wordsGo 1 (lens l) = 0
  · rw [if_pos c1]; exact .inl (by decide)
  by_cases c2 : wordsGo 1 (lens (merged (m, l) k).2) = 0
  · rw [if_pos c2]; exact .inr (.inl (by decide))
  refine .inr (.inr ?_)
  rw [wordsGo_val _ _ c1, wordsGo_val _ _ c2, h1, hl, Int.one_mul, Int.one_mul, prodF_append, prodF_append]
  refine Int.mul_lt_mul_of_pos_left ?_ (prodF_pos _)
  unfold prodF
  conv => lhs; rhs; unfold prodF
  rw [← Int.mul_assoc]
  refine Int.mul_lt_mul_of_pos_right ?_ (prodF_pos _)
  rw [fp_add, Nat.zero_add]
  exact Int.mul_lt_mul_of_pos_left (fp_far h3 h2) (fp_pos _ _)
end Go.Proofs.YtdolibeceijnnaaDoor
namespace Go.Proofs.YtdolibeceijnnaaDoor
open Go.RowKit
theorem SeqErr.at {s : Sq} {er : Int} {w : World} {e : Ending} {w' : World} (h : SeqErr s er w e w') : ∃ a cap, e = .returned (.tuple #[.agg #[.int .i64 s.1, .slice a s.2.length cap], .int .i64 er]) ∧ CellsP w' a s.2 ∧ Room a s.2.length cap ∧ Ext w w' := by
  obtain ⟨v, rfl, ⟨u, rfl, a, cap, rfl, hc, hm⟩, hE⟩ := h
  exact ⟨a, cap, rfl, hc, hm, hE⟩
structure Box (w : World) (b : Nat) (x : Int) (v : Value) : Prop where
  c0 : w.cell? ⟨b, 0, none⟩ = some (.int .i64 x)
  c1 : w.cell? ⟨b, 1, none⟩ = some v
  f0 : w.frozen? ⟨b, 0, none⟩ = false
  f1 : w.frozen? ⟨b, 1, none⟩ = false
  no : ∀ o, 2 ≤ o → w.cell? ⟨b, o, none⟩ = none
theorem Box.ext {w w' : World} {b : Nat} {x : Int} {v : Value} (h : Box w b x v) (k : Ext w w') : Box w' b x v :=
  ⟨k.cell h.c0, k.cell h.c1, (Below.frozen (p := ⟨b, 0, none⟩) k (cell_lt h.c0)).trans h.f0, (Below.frozen (p := ⟨b, 1, none⟩) k (cell_lt h.c1)).trans h.f1, fun o ho => (World.cell?_of_block (Below.block k b (cell_lt h.c0))).trans (h.no o ho)⟩
theorem Box.new (w : World) (x : Int) (a : Option Addr) (n c : Nat) : Box (w.alloc (.cells #[.int .i64 x, .slice a n c] 24)) w.heap.size x (.slice a n c) := by
  refine ⟨by go_simp, by go_simp, by go_simp, by go_simp, fun o ho => ?_⟩
  rw [World.cell?_alloc_new]
  exact Array.getElem?_eq_none (by simpa using ho)
theorem Box.set {w : World} {b : Nat} {x : Int} {v : Value} (h : Box w b x v) (y : Int) (u : Value) : Box ((w.setCell ⟨b, 0, none⟩ (.int .i64 y)).setCell ⟨b, 1, none⟩ u) b y u := by
  have e0 : (w.setCell ⟨b, 0, none⟩ (.int .i64 y)).cell? ⟨b, 0, none⟩ = some (.int .i64 y) := World.cell?_setCell_same _ _ _ h.c0
  have e1 : (w.setCell ⟨b, 0, none⟩ (.int .i64 y)).cell? ⟨b, 1, none⟩ = some v := by
    rw [World.cell?_setCell_other _ _ _ _ (fun h => by simp only [Addr.mk.injEq] at h; omega)]; exact h.c1
  refine ⟨?_, World.cell?_setCell_same _ _ _ e1, by rw [World.frozen?_setCell, World.frozen?_setCell]; exact h.f0, by rw [World.frozen?_setCell, World.frozen?_setCell]; exact h.f1, fun o ho => ?_⟩
  · rw [World.cell?_setCell_other _ _ _ _ (fun h => by simp only [Addr.mk.injEq] at h; omega)]; exact e0
  · rw [World.cell?_setCell_other _ _ _ _ (fun h => by simp only [Addr.mk.injEq] at h; omega), World.cell?_setCell_other _ _ _ _ (fun h => by simp only [Addr.mk.injEq] at h; omega)]; exact h.no o ho
theorem Box.keepK {w : World} {b : Nat} {x : Int} {sa : Option Addr} {sn sc : Nat} (h : Box w b x (.slice sa sn sc)) {a : Option Addr} {l : List Stk} (hc : CellsK w a l) {B : World} (hB : ∀ k, k < w.heap.size → k ≠ b → B.heap[k]? = w.heap[k]?) : CellsK B a l := fun i hi => by
  obtain ⟨b', off, ha, p1, p2⟩ := hc i hi
  have hne : b' ≠ b := by
    rintro rfl
    rcases Nat.lt_or_ge (off + i * 2) 2 with hlt | hge
    · rcases Nat.lt_or_ge (off + i * 2) 1 with h1 | h1
      · have e : off + i * 2 = 0 := by omega
        rw [e] at p2
        rw [h.c1] at p2
        cases p2
      · have e : off + i * 2 = 1 := by omega
        rw [e, h.c1] at p1
        cases p1
    · rw [h.no _ hge] at p1; cases p1
  have e := hB b' (cell_lt p1) hne
  exact ⟨b', off, ha, (World.cell?_of_block e).trans p1, (World.cell?_of_block e).trans p2⟩
theorem Box.keep {w : World} {b : Nat} {x : Int} {sa : Option Addr} {sn sc : Nat} (h : Box w b x (.slice sa sn sc)) {a : Option Addr} {l : List Stp} (hc : CellsP w a l) {B : World} (hB : ∀ k, k < w.heap.size → k ≠ b → B.heap[k]? = w.heap[k]?) : CellsP B a l := fun i hi => by
  obtain ⟨b', off, v, ha, p1, ⟨a2, c2, rfl, hk, hm⟩, p2⟩ := hc i hi
  have hne : b' ≠ b := by
    rintro rfl
    rcases Nat.lt_or_ge (off + i * 2) 2 with hlt | hge
    · rcases Nat.lt_or_ge (off + i * 2) 1 with h1 | h1
      · have e : off + i * 2 = 0 := by omega
        rw [e, h.c0] at p1
        cases p1
      · rw [h.no (off + i * 2 + 1) (by omega)] at p2; cases p2
    · rw [h.no _ hge] at p1; cases p1
  have e := hB b' (cell_lt p1) hne
  exact ⟨b', off, _, ha, (World.cell?_of_block e).trans p1, ⟨a2, c2, rfl, h.keepK hk hB, hm⟩, (World.cell?_of_block e).trans p2⟩
theorem set2_block (w : World) (b : Nat) (u v : Value) : ∀ k, k < w.heap.size → k ≠ b → ((w.setCell ⟨b, 0, none⟩ u).setCell ⟨b, 1, none⟩ v).heap[k]? = w.heap[k]? := fun _k _ hk =>
  (Below.heap_setCell _ _ _ _ (fun e => hk e)).trans (Below.heap_setCell _ _ _ _ (fun e => hk e))
theorem Box.other {w : World} {b c : Nat} {x : Int} {v : Value} (h : Box w c x v) (hne : c ≠ b) (u t : Value) : Box ((w.setCell ⟨b, 0, none⟩ u).setCell ⟨b, 1, none⟩ t) c x v := by
  have e := set2_block w b u t c (cell_lt h.c0) hne
  exact ⟨(World.cell?_of_block e).trans h.c0, (World.cell?_of_block e).trans h.c1, (World.frozen?_of_block e).trans h.f0, (World.frozen?_of_block e).trans h.f1, fun o ho => (World.cell?_of_block e).trans (h.no o ho)⟩
end Go.Proofs.YtdolibeceijnnaaDoor
namespace Go.Proofs.YtdolibeceijnnaaDoor
open Go.RowKit
def memS (l : List Stk) (x : Stk) : Bool := l.contains x
set_option maxHeartbeats 2000000 in
theorem IndexS_any (l : List Stk) (x : Stk) (a : Option Addr) (cap : Nat) (w : World) (hl : l.length ≤ maxLen) (hc : CellsK w a l) :
    Calls Tryd.prog 72 #[.slice a l.length cap, .agg #[.int .i64 x.1, .bool x.2]] w (AnyPost (memS l x) w) := by
  unfold maxLen at hl
  have HC := Lib.hid hc
  clear hc
  go_enter Tryd.func72, Tryd.ntmps72
  go_wp2
  have E1 : Ext w (w.alloc (.cells #[.int .i64 x.1, .bool x.2] 67)) := extA
  have c0 : ((w.alloc (.cells #[.int .i64 x.1, .bool x.2] 67))).cell? ⟨w.heap.size, 0, none⟩ = some (.int .i64 x.1) := by go_simp
  have c1 : ((w.alloc (.cells #[.int .i64 x.1, .bool x.2] 67))).cell? ⟨w.heap.size, 1, none⟩ = some (.bool x.2) := by go_simp
  generalize (w.alloc (.cells #[.int .i64 x.1, .bool x.2] 67)) = W at E1 c0 c1 ⊢
  go_loopw [8] (fun i wr => ∃ k : Nat, k ≤ l.length ∧ i = .int .i64 k ∧ Hid (∀ j : Nat, j < k → l.getD j stk0 ≠ x) ∧ Ext W wr) (fun i _ => l.length - (intOf i).toNat)
  case atStart => exact ⟨0, Nat.zero_le _, rfl, fun j hj => by omega, Ext.refl _⟩
  case round =>
    obtain ⟨k, hk, rfl, hnn, he⟩ := hrel
    have c0 := he.cell c0
    have c1 := he.cell c1
    by_cases hlt : k < l.length
    · obtain ⟨b, off, rfl, p1, p2⟩ := HC.out.ext (E1.trans he) k hlt
      by_cases hx : l.getD k stk0 = x
      · have HB : Hid (memS l x = true) := by
          show _ = _
          unfold memS
          rw [List.contains_iff_mem, ← hx, List.getD_eq_getElem?_getD, List.getElem?_eq_getElem hlt]
          simp
        have hq := fun w => eqlStk x (l.getD k stk0) w
        rw [decide_eq_true hx.symm] at hq
        clear hx
        generalize l.getD k stk0 = y at p1 p2 hq
        go_wp2
        go_quiet (fail)
        go_wp2
        go_ret
        exact ⟨(k : Int), rfl, by rw [HB.out]; simp, extA⟩
      · have HX := Lib.hid hx
        have hq := fun w => eqlStk x (l.getD k stk0) w
        rw [decide_eq_false (fun h => hx h.symm)] at hq
        clear hx
        generalize hy : l.getD k stk0 = y at p1 p2 HX hq
        have HY := Lib.hid hy
        clear hy
        have HN : Hid (∀ j, j < k + 1 → l.getD j stk0 ≠ x) := fun j hj => by
          rcases Nat.lt_or_eq_of_le (Nat.le_of_lt_succ hj) with h | rfl
          · exact hnn.out j h
          · rw [HY.out]; exact HX.out
        clear HX hnn
        go_wp2
        go_quiet (fail)
        go_wp2
        refine ⟨⟨k + 1, by omega, by go_num, HN, extA⟩, by simp [intOf]; omega⟩
    · have HB : Hid (memS l x = false) := by
        show _ = _
        unfold memS
        rw [← Bool.not_eq_true, List.contains_iff_mem]
        intro hm
        obtain ⟨j, hj, e⟩ := List.mem_iff_getElem.1 hm
        refine hnn.out j (by omega) ?_
        rw [List.getD_eq_getElem?_getD, List.getElem?_eq_getElem hj, e]; rfl
      go_wp2
      go_ret
      exact ⟨-1, rfl, by rw [HB.out]; simp, E1.trans he⟩
theorem ContainsS_any (l : List Stk) (x : Stk) (a : Option Addr) (cap : Nat) (w : World) (hl : l.length ≤ maxLen) (hc : CellsK w a l) :
    Calls Tryd.prog 51 #[.slice a l.length cap, .agg #[.int .i64 x.1, .bool x.2]] w fun e w' => e = .returned (.bool (memS l x)) ∧ Ext w w' := by
  have HC := Lib.hid hc
  have HL := Lib.hid hl
  clear hc hl
  have E1 : Ext w (w.alloc (.cells #[.int .i64 x.1, .bool x.2] 67)) := extA
  go_enter Tryd.func51, Tryd.ntmps51
  go_wp2_with fail
  refine (IndexS_any l x a cap _ HL.out (HC.out.ext E1)).mono ?_
  rintro e w1 ⟨r, rfl, hr, hE⟩
  have HR := Lib.hid hr
  have E2 := E1.trans hE
  clear hr
  go_wp2
  all_goals go_ret
  all_goals exact ⟨ret_bool HR.out, E2⟩
theorem CellsK.take {w : World} {a : Option Addr} {l : List Stk} (h : CellsK w a l) (k : Nat) : CellsK w a (l.take k) := fun i hi => by
  rw [List.length_take] at hi
  have e : (l.take k).getD i stk0 = l.getD i stk0 := by
    rw [List.getD_eq_getElem?_getD, List.getD_eq_getElem?_getD, List.getElem?_take_of_lt (by omega)]
  rw [e]
  exact h i (by omega)
theorem CellsK.drop {w : World} {b off : Nat} {l : List Stk} (h : CellsK w (some ⟨b, off, none⟩) l) (k : Nat) : CellsK w (some ⟨b, off + k * 2, none⟩) (l.drop k) := fun i hi => by
  rw [List.length_drop] at hi
  obtain ⟨b', o', e, p1, p2⟩ := h (k + i) (by omega)
  cases e
  have e : (l.drop k).getD i stk0 = l.getD (k + i) stk0 := by
    rw [List.getD_eq_getElem?_getD, List.getD_eq_getElem?_getD, List.getElem?_drop]
  rw [e]
  exact ⟨b, off + k * 2, rfl, by rw [show off + k * 2 + i * 2 = off + (k + i) * 2 from by omega]; exact p1, by rw [show off + k * 2 + i * 2 + 1 = off + (k + i) * 2 + 1 from by omega]; exact p2⟩
theorem accL_step {l : List Stp} {k : Nat} (h : k < l.length) {q : List Stk} {R : Bool} (e : accL (l.drop k) q = R) :
    (q.length < (l.getD k stp0).1.length → R = false) ∧
    (¬ q.length < (l.getD k stp0).1.length → (∀ j, j < (l.getD k stp0).1.length → memS (q.take (l.getD k stp0).1.length) ((l.getD k stp0).1.getD j stk0) = false → R = false) ∧
      ((∀ j, j < (l.getD k stp0).1.length → memS (q.take (l.getD k stp0).1.length) ((l.getD k stp0).1.getD j stk0) = true) → accL (l.drop (k + 1)) (q.drop (l.getD k stp0).1.length) = R)) := by
  rw [drop_cons l stp0 h] at e
  unfold accL at e
  generalize (l.getD k stp0).1 = st at e ⊢
  refine ⟨fun h1 => ?_, fun h1 => ⟨fun j hj h2 => ?_, fun h2 => ?_⟩⟩
  · rw [if_pos h1] at e; exact e.symm
  · rw [if_neg h1, if_pos] at e
    · exact e.symm
    · rw [List.any_eq_true]
      refine ⟨st.getD j stk0, by rw [List.getD_eq_getElem?_getD, List.getElem?_eq_getElem hj]; exact List.getElem_mem hj, ?_⟩
      unfold memS at h2
      rw [h2]; rfl
  · rw [if_neg h1, if_neg] at e
    · exact e
    · rw [Bool.not_eq_true, List.any_eq_false]
      intro y hy
      obtain ⟨j, hj, rfl⟩ := List.mem_iff_getElem.1 hy
      have := h2 j hj
      unfold memS at this
      rw [List.getD_eq_getElem?_getD, List.getElem?_eq_getElem hj] at this
      have : (q.take st.length).contains st[j] = true := this
      rw [this]; decide
set_option maxHeartbeats 8000000 in
set_option maxRecDepth 100000 in
theorem Accepts_any (n : Int) (l : List Stp) (a : Option Addr) (cap : Nat) (ws : List Stk) (wa : Option Addr) (wc : Nat) (w : World) (hl : l.length ≤ maxLen) (hc : CellsP w a l) (hwc : CellsK w wa ws) (hwr : ws.length ≤ wc ∧ wc ≤ maxLen) :
    Calls Tryd.prog 21 #[.agg #[.int .i64 n, .slice a l.length cap], .slice wa ws.length wc] w fun e w' => e = .returned (.tuple #[.bool (decide (ckSeq (n, l) = 0) && accL l ws), .int .i64 (ckSeq (n, l))]) ∧ Ext w w' := by
  have HC := Lib.hid hc
  have HL := Lib.hid hl
  have HW := Lib.hid hwc
  obtain ⟨er, her⟩ : ∃ er, er = ckSeq (n, l) := ⟨_, rfl⟩
  obtain ⟨R, hR⟩ : ∃ R, R = (decide (er = 0) && accL l ws) := ⟨_, rfl⟩
  rw [← her, ← hR]
  have HER := Lib.hid her
  have HR := Lib.hid hR
  obtain ⟨hw1, hw2⟩ := hwr
  unfold maxLen at hw2
  clear hc her hR hl hwc
  go_enter Tryd.func21, Tryd.ntmps21
  go_wp2_with fail
  have E1 : Ext w (w.alloc (.cells #[.int .i64 n, .slice a l.length cap] 24)) := extA
  have c0 : ((w.alloc (.cells #[.int .i64 n, .slice a l.length cap] 24))).cell? ⟨w.heap.size, 0, none⟩ = some (.int .i64 n) := by go_simp
  have c1 : ((w.alloc (.cells #[.int .i64 n, .slice a l.length cap] 24))).cell? ⟨w.heap.size, 1, none⟩ = some (.slice a l.length cap) := by go_simp
  generalize (w.alloc (.cells #[.int .i64 n, .slice a l.length cap] 24)) = W at E1 c0 c1 ⊢
  refine (Check_any n l a cap _ HL.out (HC.out.ext E1)).mono ?_
  rintro e w1 ⟨rfl, hE⟩
  rw [← HER.out]
  have E2 := E1.trans hE
  have c0 := (hE).cell c0
  have c1 := (hE).cell c1
  clear hE
  by_cases h0 : er = 0
  · subst h0
    have hck := HER.out.symm
    obtain ⟨hN1, hN6, hl0, hl64, hwk, _, _⟩ := ckSeq_zero hck
    have HFI := Lib.hid (ckWalk_fine hwk)
    have hR := HR.out
    rw [decide_eq_true rfl, Bool.true_and] at hR
    have R0 : Hid (accL (l.drop 0) ws = R) := hR.symm
    have W0 : Hid (CellsK w1 wa ws) := HW.out.ext E2
    have zw := cell_lt c0
    dsimp only at zw
    clear hck hwk HER HR hR
    go_wp2
    go_loopw [20, 1] (fun i v wr => ∃ k : Nat, k ≤ l.length ∧ i = .int .i64 k ∧ (∃ (q : List Stk) (va : Option Addr) (vc : Nat), v = .slice va q.length vc ∧ q.length ≤ vc ∧ vc ≤ 2 ^ 63 - 1 ∧ Hid (CellsK w1 va q) ∧ Hid (accL (l.drop k) q = R)) ∧ Ext w1 wr) (fun i _ _ => l.length - (intOf i).toNat)
    case atStart => exact ⟨0, Nat.zero_le _, rfl, ⟨ws, wa, wc, rfl, hw1, hw2, W0, R0⟩, Ext.refl _⟩
    case round =>
      obtain ⟨k, hk, rfl, ⟨q, va, vc, rfl, hqv, hvm, hcq, hz⟩, he⟩ := hrel
      clear R0 W0
      have E3 := E2.trans he
      by_cases hlt : k < l.length
      · obtain ⟨b, off, v, ha, p1, hv, p2⟩ := HC.out k hlt
        subst ha
        have hst := ckStep_strokes (HFI.out k hlt).1
        have hst6 := hst.2.1
        have hst0 := hst.2.2.1
        have HZ := Lib.hid (accL_step hlt hz.out)
        obtain ⟨sa, sc, rfl, hcs, hls⟩ := hv
        have p1 := E3.cell p1
        have p2 := E3.cell p2
        generalize l.getD k stp0 = x at p1 p2 hcs hls HZ hst6 hst0
        obtain ⟨st, wj⟩ := x
        dsimp only at p1 p2 hcs hls HZ hst6 hst0
        have zb := cell_lt p1
        dsimp only at zb
        have HCS := Lib.hid hcs
        have EB : Ext wr (wr.alloc (.cells #[.slice sa st.length sc, .int .i64 wj] 65)) := extA
        clear hcs hls hz hst
        by_cases hq : q.length < st.length
        · have hRf := HZ.out.1 hq
          have hqi : (q.length : Int) < (st.length : Int) := by omega
          subst hRf
          have E4 := E3.trans EB
          clear HZ EB
          go_wp2
          go_ret2
          exact ⟨rfl, E4⟩
        · have HZ2 := Lib.hid (HZ.out.2 hq)
          have hq0 : 0 < q.length := by omega
          obtain ⟨qb, qo, rfl, _, _⟩ := hcq.out 0 hq0
          have g0 : CellsK w1 (some ⟨qb, qo, none⟩) (q.take st.length) := hcq.out.take _
          have g1 : CellsK w1 (some ⟨qb, qo + st.length * 2, none⟩) (q.drop st.length) := hcq.out.drop _
          obtain ⟨T, hT⟩ : ∃ T, T = q.take st.length := ⟨_, rfl⟩
          obtain ⟨D, hD⟩ : ∃ D, D = q.drop st.length := ⟨_, rfl⟩
          have hTl : T.length = st.length := by rw [hT, List.length_take]; omega
          have hDl : D.length = q.length - st.length := by rw [hD, List.length_drop]
          rw [← hT] at g0
          rw [← hD] at g1
          rw [← hT, ← hD] at HZ2
          have G0 := Lib.hid g0
          have G1 := Lib.hid g1
          have HTL := Lib.hid hTl
          have HDL := Lib.hid hDl
          have hcap0 : st.length ≤ vc := by omega
          have hcv : ¬ vc = 0 := by omega
          clear g0 g1 hT hD hTl hDl HZ
          go_wp2
          have E4 := he.trans EB
          have q0 : (wr.alloc (.cells #[.slice sa st.length sc, .int .i64 wj] 65)).cell? ⟨wr.heap.size, 0, none⟩ = some (.slice sa st.length sc) := by go_simp
          generalize (wr.alloc (.cells #[.slice sa st.length sc, .int .i64 wj] 65)) = W5 at E4 q0 ⊢
          clear EB
          go_loopw [34] (fun i wx => ∃ j : Nat, j ≤ st.length ∧ i = .int .i64 j ∧ Hid (∀ i, i < j → memS T (st.getD i stk0) = true) ∧ Ext w1 wx) (fun i _ => st.length - (intOf i).toNat)
          case atStart => exact ⟨0, by omega, rfl, (fun i hi => by omega), E4⟩
          case round =>
            obtain ⟨j, hj, rfl, hm, hE5⟩ := hrel
            by_cases hjl : j < st.length
            · obtain ⟨kb, ko, ha, r1, r2⟩ := HCS.out j hjl
              subst ha
              have r1 := (E2.trans hE5).cell r1
              have r2 := (E2.trans hE5).cell r2
              have HBAD := Lib.hid (HZ2.out.1 j hjl)
              have HGO : Hid (memS T (st.getD j stk0) = true → ∀ i, i < j + 1 → memS T (st.getD i stk0) = true) := fun h i hi => by
                rcases Nat.lt_or_eq_of_le (Nat.le_of_lt_succ hi) with h2 | rfl
                · exact hm.out i h2
                · exact h
              generalize st.getD j stk0 = y at r1 r2 HBAD HGO
              have zk := cell_lt r1
              dsimp only at zk
              have EY : Ext wr (wr.alloc (.cells #[.int .i64 y.1, .bool y.2] 67)) := extA
              have y0 : (wr.alloc (.cells #[.int .i64 y.1, .bool y.2] 67)).cell? ⟨wr.heap.size, 0, none⟩ = some (.int .i64 y.1) := by go_simp
              have y1 : (wr.alloc (.cells #[.int .i64 y.1, .bool y.2] 67)).cell? ⟨wr.heap.size, 1, none⟩ = some (.bool y.2) := by go_simp
              clear hm
              go_wp2
              have E6 := hE5.trans EY
              have HCT := Lib.hid (fun W h => ContainsS_any T y (some ⟨qb, qo, none⟩) vc W (by rw [HTL.out]; unfold maxLen; omega) h)
              rw [HTL.out] at HCT
              generalize (wr.alloc (.cells #[.int .i64 y.1, .bool y.2] 67)) = W6 at E6 y0 y1 ⊢
              clear EY
              have zy := cell_lt y0
              dsimp only at zy
              go_region_held3 (fun w' => Sees W6 w') ((repeat (first | exact Sees.refl _ | assumption | apply Sees.drew | apply Sees.alloc | (refine Sees.ext ?_ (by assumption))))) (first | (go_at_call 51; refine (HCT.out _ (G0.out.ext (E6.trans (by exact (show Sees W6 _ by assumption).2.2)))).mono ?_; rintro e w' ⟨rfl, hE⟩))
              have hSee : Sees W6 w' := by assumption
              have E7 : Ext w1 w' := E6.trans hSee.2.2
              clear hSee HCT
              cases hmm : memS T y
              · have hRf := HBAD.out hmm
                subst hRf
                clear HBAD HGO HZ2 hmm
                go_wp2
                go_ret2
                exact ⟨rfl, E2.trans E7⟩
              · have HN := Lib.hid (HGO.out hmm)
                clear HBAD HGO hmm
                go_wp2
                refine ⟨⟨j + 1, by omega, by go_num, HN, E7⟩, by simp [intOf]; omega⟩
            · have hje : j = st.length := by omega
              subst hje
              have HZ3 := Lib.hid (HZ2.out.2 hm.out)
              clear hm HZ2
              by_cases hvn : vc = st.length
              · have hD0 : D = [] := List.eq_nil_of_length_eq_zero (by have := HDL.out; omega)
                subst hD0
                have hql : q.length = st.length := by omega
                have HQL := Lib.hid hql
                have g2 : Hid (CellsK w1 (some ⟨qb, qo, none⟩) ([] : List Stk)) := CellsK.nil _ _
                have hqs : q.length - st.length = 0 := by omega
                have hvs : vc - st.length = 0 := by omega
                clear hql
                go_wp2
                refine ⟨⟨k + 1, by omega, by go_num, ⟨[], some ⟨qb, qo, none⟩, 0, ?_, by simp, by omega, g2, HZ3⟩, hE5⟩, by simp [intOf]; omega⟩
                simp
              · have hdl := HDL.out
                clear HDL
                go_wp2
                refine ⟨⟨k + 1, by omega, by go_num, ⟨D, some ⟨qb, qo + st.length * 2, none⟩, vc - st.length, ?_, by omega, by omega, G1, HZ3⟩, hE5⟩, by simp [intOf]; omega⟩
                simp [hdl]
      · have hke : k = l.length := by omega
        have hz2 := hz.out
        rw [List.drop_eq_nil_of_le (by omega)] at hz2
        have hz2 : (q.length == 0) = R := hz2
        have hz3 : ((q.length : Int) == 0) = R := by rw [← hz2]; rw [Bool.eq_iff_iff]; simp
        clear hz
        subst hz2
        go_wp2
        go_ret2
        exact ⟨by simp, E3⟩
  · have hn : (er != 0) = true := by simp [h0]
    have hR := HR.out
    rw [decide_eq_false h0, Bool.false_and] at hR
    subst hR
    clear h0 HER HR
    go_wp2
    go_ret2
    exact ⟨rfl, E2⟩
end Go.Proofs.YtdolibeceijnnaaDoor
namespace Go.Proofs.YtdolibeceijnnaaDoor
open Go.RowKit
theorem mergeE_cases {m : Int} {l : List Stp} (h : ckSeq (m, l) = 0) (k : Int) : mergeE (m, l) k = 0 ∨ mergeE (m, l) k = 14 ∨ mergeE (m, l) k = 2 := by
  unfold mergeE
  rw [if_neg (by simp [h])]
  by_cases h1 : k < 0 ∨ (((m, l) : Sq).2.length : Int) - 2 < k
  · rw [if_pos h1]; exact .inr (.inr rfl)
  · rw [if_neg h1]
    by_cases h2 : (apart (((m, l) : Sq).2.getD k.toNat ([], 0)) (((m, l) : Sq).2.getD (k.toNat + 1) ([], 0)) && (((m, l) : Sq).2.getD k.toNat ([], 0)).2 == 0) = true
    · rw [if_pos h2]; exact .inl rfl
    · rw [if_neg h2]; exact .inr (.inl rfl)
end Go.Proofs.YtdolibeceijnnaaDoor
namespace Go.Proofs.YtdolibeceijnnaaDoor
open Go.RowKit
theorem grpN_le {l : List Stp} (h : 0 < l.length) : grpN l ≤ l.length := long_len (okF_her _) h
theorem FewestN_any (n : Int) (l : List Stp) (a : Option Addr) (cap : Nat) (w : World) (hk : ckSeq (n, l) = 0) (hG : GBits w) (hc : CellsP w a l) :
    Calls Tryd.prog 12 #[.agg #[.int .i64 n, .slice a l.length cap]] w fun e w' => ∃ ra rc, e = .returned (.tuple #[.slice ra (grpN l) rc, .int .i64 0]) ∧ Ext w w' := by
  refine (Fewest_any n l a cap w hk hG hc).mono ?_
  rintro e w' ⟨ra, rc, rfl, _, _, hE⟩
  rw [intsN_len]
  exact ⟨ra, rc, rfl, hE⟩
end Go.Proofs.YtdolibeceijnnaaDoor
namespace Go.Proofs.YtdolibeceijnnaaDoor
open Go.RowKit
set_option maxHeartbeats 16000000 in
set_option maxRecDepth 100000 in
theorem TopGroupsMerge_any (n : Int) (l : List Stp) (a : Option Addr) (ca : Nat) (wh : Int) (w : World) (hG : GBits w) (hc : CellsP w a l) (hr : Room a l.length ca) (hwh : 0 ≤ wh ∧ wh ≤ 255) :
    Calls Tryd.prog 5 #[.agg #[.int .i64 n, .slice a l.length ca], .int .u8 wh] w fun e w' => e = .returned (.bool true) ∧ Ext w w' := by
  have HG := Lib.hid hG
  have HC := Lib.hid hc
  have HR := Lib.hid hr
  clear hG hc hr
  go_enter Tryd.func5, Tryd.ntmps5
  go_wp2_with fail
  have E0 : Ext w (w.alloc (.cells #[.int .i64 n, .slice a l.length ca] 24)) := extA
  have a0 : ((w.alloc (.cells #[.int .i64 n, .slice a l.length ca] 24))).cell? ⟨w.heap.size, 0, none⟩ = some (.int .i64 n) := by go_simp
  have a1 : ((w.alloc (.cells #[.int .i64 n, .slice a l.length ca] 24))).cell? ⟨w.heap.size, 1, none⟩ = some (.slice a l.length ca) := by go_simp
  generalize (w.alloc (.cells #[.int .i64 n, .slice a l.length ca] 24)) = W at E0 a0 a1 ⊢
  refine (caseSmall_any n l a ca 12 _ (HC.out.ext E0) HR.out).mono ?_
  rintro e w1 ⟨rfl, hE⟩
  have F1 := E0.trans hE
  replace a0 := (hE).cell a0
  replace a1 := (hE).cell a1
  clear hE E0
  have HRA := Lib.hid (fun h => smallB_true (n := n) (l := l) (k := 12) h)
  generalize smallB n l 12 = fa at HRA ⊢
  obtain ⟨bs, hbs⟩ : ∃ bs, bs = w.heap.size := ⟨_, rfl⟩
  rw [← hbs] at a0 a1 ⊢
  clear hbs
  cases fa
  · go_wp2_with fail
    refine (caseGroups_any _ (HG.out.ext F1)).mono ?_
    rintro e w2 ⟨rfl, hE⟩
    go_wp2
    go_ret
    exact ⟨rfl, F1.trans hE⟩
  obtain ⟨hla, hka⟩ := HRA.out (by first | trivial | rfl)
  have hl0 := (ckSeq_right hka).len.1
  have HKA := Lib.hid hka
  clear hka HRA
  obtain ⟨wn, rfl⟩ := Int.eq_ofNat_of_zero_le hwh.1
  obtain ⟨kk, hkk⟩ : ∃ kk, kk = wn % l.length := ⟨_, rfl⟩
  have hmod : (wn : Int).tmod (l.length : Int) = (kk : Int) := by
    rw [Int.tmod_eq_emod_of_nonneg (by omega), hkk]; rfl
  have hkl : kk < l.length := by rw [hkk]; exact Nat.mod_lt _ hl0
  have u1 : IntKind.i64.wrap (wn : Int) = (wn : Int) := IntWalk.i64_in _ (by omega)
  have u2 : IntKind.i64.wrap (kk : Int) = (kk : Int) := IntWalk.i64_in _ (by omega)
  have u3 : ((l.length : Int) == 0) = false := beq_eq_false_iff_ne.2 (by omega)
  have u4 : ¬ (l = []) := fun h => by rw [h] at hl0; simp at hl0
  obtain ⟨me, hme⟩ : ∃ me, me = mergeE (n, l) (kk : Int) := ⟨_, rfl⟩
  obtain ⟨⟨mn, ml⟩, hms⟩ : ∃ s : Sq, s = (if me = 0 then merged (n, l) kk else sq0) := ⟨_, rfl⟩
  have HMG := Lib.hid (fun W h => Merge_any n l (kk : Int) a ca W HR.out h)
  rw [← hme, Int.toNat_natCast, ← hms] at HMG
  have HME := Lib.hid hme
  have HMS := Lib.hid hms
  clear hkk hme hms
  go_wp2
  go_cut [5, 6] (fun x y wx => ∃ b2 ya yc, x = .pointer (some ⟨b2, 0, none⟩) ∧ y = .int .i64 me ∧ Hid (wx.cell? ⟨b2, 0, none⟩ = some (.int .i64 mn) ∧ wx.cell? ⟨b2, 1, none⟩ = some (.slice ya ml.length yc) ∧ CellsP wx ya ml ∧ Room ya ml.length yc) ∧ Ext w1 wx)
  case first =>
    refine wp_region_heldE 12 (fun w' => w'.cell? ⟨bs, 0, none⟩ = some (.int .i64 n) ∧ w'.cell? ⟨bs, 1, none⟩ = some (.slice a l.length ca)) (by kernel_rfl) ?_
    have ED : Ext w1 w1.drew := extA
    have hS : w1.drew.cell? ⟨bs, 0, none⟩ = some (.int .i64 n) ∧ w1.drew.cell? ⟨bs, 1, none⟩ = some (.slice a l.length ca) := ⟨ED.cell a0, ED.cell a1⟩
    clear a0 a1
    generalize w1.drew = W2 at ED hS ⊢
    ((refine eTk 0 ?_); (refine eTk 1 ?_); (refine eTk 2 ?_); (refine eTk 3 ?_); (refine eTk 4 ?_); (refine eTk 5 ?_); (refine eTk 6 ?_))
    refine wpAnyE_two (i := 7) (j := 11) (o := ?_) (p := ?_) ?_ ?_ (by kernel_rfl) (fun K hK => ?_) (fun K hK => ?_)
    rotate_left 2
    · simp only [List.getElem?_toArray, List.getElem?_cons_succ, List.getElem?_cons_zero]; exact rfl
    · simp only [List.getElem?_toArray, List.getElem?_cons_succ, List.getElem?_cons_zero]; exact rfl
    · go_simp
      refine (HMG.out _ (HC.out.ext (F1.trans ED))).mono ?_
      rintro e w8 h
      obtain ⟨ya, yc, rfl, hf, hfr, hE⟩ := h.at
      dsimp only at hf hfr ⊢
      have Y2 := Lib.hid hf
      have YR := Lib.hid hfr
      clear hf hfr h
      go_wp2_with fail
      refine hK.out _ _ ⟨hE.cell hS.1, hE.cell hS.2⟩ (fun hHeld => ?_)
      clear hK K
      (try simp only [Act.put, List.setIfInBounds_toArray, List.set_cons_zero, List.set_cons_succ])
      have hS8 : w8.cell? ⟨bs, 0, none⟩ = some (.int .i64 n) ∧ w8.cell? ⟨bs, 1, none⟩ = some (.slice a l.length ca) := hHeld
      ((refine ePu 8 ?_); (refine ePu 9 ?_); (refine ePu 10 ?_))
      have E9 : Ext w8 (w8.alloc (.cells #[.int .i64 0, .slice none 0 0] 24)) := extA
      (refine wpAnyE_one (i := 11) (o := ?_) ?_ (by kernel_rfl) (fun K hK => ?_); rotate_left; (focus ((simp only [List.getElem?_toArray, List.getElem?_cons_succ, List.getElem?_cons_zero]; exact rfl))); go_simp; refine hK.out _ _ ?_ (fun hHeld => ?_); rotate_left; clear hK K; (try simp only [Act.put, List.setIfInBounds_toArray, List.set_cons_zero, List.set_cons_succ]))
      rotate_left
      · exact ⟨E9.cell hS8.1, E9.cell hS8.2⟩
      (refine wpAnyE_free (i := 12) (o := ?_) ?_ (by kernel_rfl) (by kernel_rfl) (fun K hK => ?_); rotate_left; (focus ((simp only [List.getElem?_toArray, List.getElem?_cons_succ, List.getElem?_cons_zero]; exact rfl))); go_simp; refine hK.out _ _ ?_; clear hK K; (try simp only [Act.put, List.setIfInBounds_toArray, List.set_cons_zero, List.set_cons_succ]))
      (refine ePu 13 ?_)
      refine wpAnyE_done (by kernel_rfl) ?_ _
      go_wp2_with fail
      go_meet
      have EA : Ext w8 (w8.alloc (.cells #[.int .i64 mn, .slice ya ml.length yc] 24)) := extA
      exact ⟨w8.heap.size, ya, yc, rfl, rfl, ⟨by go_simp, by go_simp, Y2.out.ext EA, YR.out⟩, (ED.trans hE).trans EA⟩
    · go_simp
      have E9 : Ext W2 (W2.alloc (.cells #[.int .i64 0, .slice none 0 0] 24)) := extA
      have BN := Lib.hid (Box.new W2 0 none 0 0)
      have hb2 : W2.heap.size < (W2.alloc (.cells #[.int .i64 0, .slice none 0 0] 24)).heap.size := by simp
      refine hK.out _ _ ⟨E9.cell hS.1, E9.cell hS.2⟩ (fun hHeld => ?_)
      clear hK K
      (try simp only [Act.put, List.setIfInBounds_toArray, List.set_cons_zero, List.set_cons_succ])
      have hS8 : (W2.alloc (.cells #[.int .i64 0, .slice none 0 0] 24)).cell? ⟨bs, 0, none⟩ = some (.int .i64 n) ∧ (W2.alloc (.cells #[.int .i64 0, .slice none 0 0] 24)).cell? ⟨bs, 1, none⟩ = some (.slice a l.length ca) := hHeld
      obtain ⟨nb, hnb⟩ : ∃ nb, nb = W2.heap.size := ⟨_, rfl⟩
      rw [← hnb] at BN hb2 ⊢
      have HNB := Lib.hid hnb
      clear hnb hS
      generalize (W2.alloc (.cells #[.int .i64 0, .slice none 0 0] 24)) = W3 at E9 BN hS8 hb2 ⊢
      (refine wpAnyE_one (i := 7) (o := ?_) ?_ (by kernel_rfl) (fun K hK => ?_); rotate_left; (focus ((simp only [List.getElem?_toArray, List.getElem?_cons_succ, List.getElem?_cons_zero]; exact rfl))); go_simp; refine (HMG.out _ (HC.out.ext ((F1.trans ED).trans E9))).mono ?_; rintro e w8 h; obtain ⟨ya, yc, rfl, hf, hfr, hE⟩ := h.at; dsimp only at hf hfr ⊢; have Y2 := Lib.hid hf; have YR := Lib.hid hfr; clear hf hfr h; go_wp2_with fail; refine hK.out _ _ ?_ (fun hHeld => ?_); rotate_left; clear hK K; (try simp only [Act.put, List.setIfInBounds_toArray, List.set_cons_zero, List.set_cons_succ]))
      rotate_left
      · exact ⟨hE.cell hS8.1, hE.cell hS8.2⟩
      have BN := Lib.hid (BN.out.ext hE)
      have q0 := BN.out.c0
      have q1 := BN.out.c1
      have q2 := BN.out.f0
      have q3 := BN.out.f1
      ((refine ePu 8 ?_); (refine ePu 9 ?_); (refine ePu 10 ?_))
      (refine wpAnyE_free (i := 12) (o := ?_) ?_ (by kernel_rfl) (by kernel_rfl) (fun K hK => ?_); rotate_left; (focus ((simp only [List.getElem?_toArray, List.getElem?_cons_succ, List.getElem?_cons_zero]; exact rfl))); go_simp; refine hK.out _ _ ?_; clear hK K; (try simp only [Act.put, List.setIfInBounds_toArray, List.set_cons_zero, List.set_cons_succ]))
      (refine ePu 13 ?_)
      refine wpAnyE_done (by kernel_rfl) ?_ _
      go_wp2_with fail
      go_meet
      have EB : Ext W2 ((w8.setCell ⟨nb, 0, none⟩ (.int .i64 mn)).setCell ⟨nb, 1, none⟩ (.slice ya ml.length yc)) := ((E9.trans hE).set (by have := HNB.out; omega) _).set (by have := HNB.out; omega) _
      have BM := BN.out.set mn (.slice ya ml.length yc)
      exact ⟨nb, ya, yc, rfl, rfl, ⟨BM.c0, BM.c1, BN.out.keep Y2.out (set2_block _ nb _ _), YR.out⟩, ED.trans EB⟩
  case rest =>
    obtain ⟨b3, ya, yc, rfl, rfl, HB3, hE⟩ := hcut
    have FB := F1.trans hE
    replace a0 := (hE).cell a0
    replace a1 := (hE).cell a1
    clear hE F1 HMG u1 u2 u3 hmod
    have hcs := mergeE_cases HKA.out (kk : Int)
    rw [← HME.out] at hcs
    rcases hcs with h0 | h0 | h0
    · have hms := HMS.out
      rw [if_pos h0] at hms
      have hme0 : mergeE (n, l) (kk : Int) = 0 := HME.out.symm.trans h0
      have hri := ckSeq_right HKA.out
      obtain ⟨m1, m2, m3, m4⟩ := merged_right hri hme0
      obtain ⟨g1, g2⟩ := merged_groups hri hme0
      have hwd := merged_words hri hme0
      have hgl := grpN_le hl0
      rw [← hms] at m1 m2 m4 g1 g2 hwd
      have hmn : mn = n := congrArg Prod.fst hms
      subst hmn
      have hck : ckSeq (mn, ml) = 0 := m1.ck
      dsimp only at m2 m4 g1 g2
      have HFA := Lib.hid (fun W hg h => FewestN_any mn l a ca W HKA.out hg h)
      have HFB := Lib.hid (fun W hg h => FewestN_any mn ml ya yc W hck hg h)
      have HWD := Lib.hid (fun W h => Word_any mn l a ca W HR.out h)
      rw [HKA.out, if_pos rfl] at HWD
      have HAC := Lib.hid (fun W wa wcp h1 h2 hm => Accepts_any mn ml ya yc (wordL l) wa wcp W HB3.out.2.2.2 h1 h2 hm)
      rw [hck, m4] at HAC
      have HNA := Lib.hid (fun W h => Words_any mn l a ca W HR.out h)
      have HNB := Lib.hid (fun W h => Words_any mn ml ya yc W HB3.out.2.2.2 h)
      generalize grpN l = X at HFA g1 g2 hgl
      generalize grpN ml = Y at HFB g1 g2
      generalize wordsN (mn, l) = nA at HNA hwd
      generalize wordsN (mn, ml) = nB at HNB hwd
      generalize wordsE (mn, l) = eA at HNA hwd
      generalize wordsE (mn, ml) = eB at HNB hwd
      have HBK := Lib.hid HB3.out.2.2.1
      have r0 := HB3.out.1
      have r1 := HB3.out.2.1
      have HHW := Lib.hid hwd
      subst h0
      clear hms hme0 m1 m2 m4 hck HMS HME HB3 hri hwd
      have v5 : IntKind.i64.wrap 0 = 0 := rfl
      have v6 : IntKind.i64.wrap ((X : Int) + 1) = (X : Int) + 1 := IntWalk.i64_in _ (by omega)
      have v7 : (Y : Int) ≤ (X : Int) + 1 := by omega
      have v8 : (X : Int) ≤ (Y : Int) := by omega
      go_wp2_with fail
      refine (HFA.out _ (HG.out.ext FB) (HC.out.ext FB)).mono ?_
      rintro e w2 ⟨ra, rc, rfl, hE⟩
      have FC := FB.trans hE
      replace a0 := (hE).cell a0
      replace a1 := (hE).cell a1
      replace r0 := (hE).cell r0
      replace r1 := (hE).cell r1
      have HBP := Lib.hid (HBK.out.ext hE)
      clear hE FB HFA HBK
      go_wp2_with fail
      refine (HFB.out _ (HG.out.ext FC) HBP.out).mono ?_
      rintro e w3 ⟨rb, rd, rfl, hE⟩
      have FD := FC.trans hE
      replace a0 := (hE).cell a0
      replace a1 := (hE).cell a1
      replace r0 := (hE).cell r0
      replace r1 := (hE).cell r1
      replace HBP := Lib.hid (HBP.out.ext hE)
      clear hE FC HFB
      go_wp2_with fail
      refine (HWD.out _ (HC.out.ext FD)).mono ?_
      rintro e w4 ⟨v, rfl, hv, hx1, hE⟩
      obtain ⟨wa, wcp, rfl, hwc, hwm, hx2⟩ := hv.reads
      have hwr := rowRoom hv rfl
      have WC := Lib.hid hwc
      have WR := Lib.hid hwr
      have FE := FD.trans hE
      replace a0 := (hE).cell a0
      replace a1 := (hE).cell a1
      replace r0 := (hE).cell r0
      replace r1 := (hE).cell r1
      replace HBP := Lib.hid (HBP.out.ext hE)
      clear hv hwc hwm hwr hE FD HWD hx1 hx2
      go_wp2_with fail
      refine (HAC.out _ wa wcp HBP.out WC.out ⟨WR.out.1, WR.out.2.1⟩).mono ?_
      rintro e w5 ⟨rfl, hE⟩
      have FF := FE.trans hE
      replace a0 := (hE).cell a0
      replace a1 := (hE).cell a1
      replace r0 := (hE).cell r0
      replace r1 := (hE).cell r1
      replace HBP := Lib.hid (HBP.out.ext hE)
      clear hE FE HAC WC WR
      go_wp2_with fail
      refine (HNA.out _ (HC.out.ext FF)).mono ?_
      rintro e w6 ⟨rfl, hE⟩
      have FG := FF.trans hE
      replace a0 := (hE).cell a0
      replace a1 := (hE).cell a1
      replace r0 := (hE).cell r0
      replace r1 := (hE).cell r1
      replace HBP := Lib.hid (HBP.out.ext hE)
      clear hE FF HNA
      go_wp2_with fail
      refine (HNB.out _ HBP.out).mono ?_
      rintro e w7 ⟨rfl, hE⟩
      have FH := FG.trans hE
      clear hE FG HNB a0 a1 r0 r1
      by_cases hA : eA = 0
      · by_cases hB : eB = 0
        · have hlt : nA < nB := by
            rcases HHW.out with h | h | h
            · exact absurd hA h
            · exact absurd hB h
            · exact h
          subst hA
          subst hB
          clear HHW
          go_wp2_with fail
          refine (caseGroups_any _ (HG.out.ext FH)).mono ?_
          rintro e w8 ⟨rfl, hE⟩
          go_wp2
          go_ret
          exact ⟨rfl, FH.trans hE⟩
        · have hB2 : (eB != 0) = true := by simp [hB]
          subst hA
          clear HHW hB
          go_wp2_with fail
          refine (caseGroups_any _ (HG.out.ext FH)).mono ?_
          rintro e w8 ⟨rfl, hE⟩
          go_wp2
          go_ret
          exact ⟨rfl, FH.trans hE⟩
      · have hA2 : (eA != 0) = true := by simp [hA]
        clear HHW hA
        go_wp2_with fail
        refine (caseGroups_any _ (HG.out.ext FH)).mono ?_
        rintro e w8 ⟨rfl, hE⟩
        go_wp2
        go_ret
        exact ⟨rfl, FH.trans hE⟩
    · subst h0
      clear HMS HME HB3
      go_wp2_with fail
      refine (caseGroups_any _ (HG.out.ext FB)).mono ?_
      rintro e w11 ⟨rfl, hE⟩
      go_wp2
      go_ret
      exact ⟨rfl, FB.trans hE⟩
    · subst h0
      clear HMS HME HB3
      go_wp2_with fail
      refine (caseGroups_any _ (HG.out.ext FB)).mono ?_
      rintro e w11 ⟨rfl, hE⟩
      go_wp2
      go_ret
      exact ⟨rfl, FB.trans hE⟩
end Go.Proofs.YtdolibeceijnnaaDoor
