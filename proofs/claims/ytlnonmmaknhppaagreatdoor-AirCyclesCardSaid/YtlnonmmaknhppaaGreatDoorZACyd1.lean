/- Steps of the proof: AGiv, AOpen, AJoin, ACyl, QSpec, QCells, AOwK, QStep, QSeq, QBeh, QCheck, QChk, QAfter, QChkR, QStepsR. No conditions. -/
import Derived.Test.YtlnonmmaknhppaaGreatDoorCards
import Derived.Test.YtlnonmmaknhppaaGreatDoorTie
import Derived.WalkKit
import Derived.ProofKit
import Derived.OpenShut
import Derived.Deep.DeepHandedRow
import Derived.Lib.LaidTab
import Derived.LaidSub
import Derived.Stop.LaidErr
import Derived.MakeChecks
import Derived.Lib.SmallJoins
import Derived.Deep.Slices
import Derived.Laws.ResultCell
import Derived.Laws.StructEq
import Derived.Deep.OwnRows
import Derived.Test.YtlnonmmaknhppaaGreatDoorZAC1
import Derived.Test.YtlnonmmaknhppaaGreatDoorZAC2
import Derived.Test.YtlnonmmaknhppaaGreatDoorZAC3
import Derived.Test.YtlnonmmaknhppaaGreatDoorZAC4
import Derived.Test.YtlnonmmaknhppaaGreatDoorZAC5
import Derived.Test.YtlnonmmaknhppaaGreatDoorZAC6
import Derived.Test.YtlnonmmaknhppaaGreatDoorZAC7
import Derived.Test.YtlnonmmaknhppaaGreatDoorZAC8
import Derived.Test.YtlnonmmaknhppaaGreatDoorZAC9
namespace Go.Proofs.YtlnonmmaknhppaaGreatDoor
open Go.ChangeShapes Go.WideShapes Go.ChangeAt Go.RowKit
theorem own : ownKnob Tryz.prog.godebug = none := by kernel_rfl
theorem gTab : Tryz.prog.globalNamed "internal/strconv.uint64pow10" = some 0 := by kernel_rfl
theorem gTabT : (Tryz.prog.globals[0]?).map (·.type) = some 269 := by kernel_rfl
theorem cellsTab : Tryz.prog.cellsOf 269 = 20 := by kernel_rfl
theorem cellsU64 : Tryz.prog.cellsOf 159 = 1 := by kernel_rfl
theorem gRng : Tryz.prog.globalNamed "strconv.ErrRange" = some 5 := by kernel_rfl
theorem gRngT : (Tryz.prog.globals[5]?).map (·.type) = some 229 := by kernel_rfl
theorem gSyn : Tryz.prog.globalNamed "strconv.ErrSyntax" = some 4 := by kernel_rfl
theorem gSynT : (Tryz.prog.globals[4]?).map (·.type) = some 229 := by kernel_rfl
theorem starE : "*" ++ "errors.errorString" = "*errors.errorString" := by decide
theorem rowE (u : TypeId) (h : Tryz.prog.typeName? 3 u = some "*errors.errorString") : u = 300 :=
  typeName_ptr_named (nm := "errors.errorString") (by rw [starE]; kernel_rfl) (by kernel_rfl) (by decide) u (by rw [starE]; exact h)
theorem cellsErr : Tryz.prog.cellsOf 302 = 1 := by kernel_rfl
theorem cellsStr : Tryz.prog.cellsOf 9 = 1 := by kernel_rfl
theorem glob_of {W : World} (hs : W.ShapedOpen Tryz.prog) (hL : laidMetH Tryz.prog Rows.airMeasuresRow.laid W) : Glob W := by
  have hP : laidMet Tryz.prog Rows.airMeasuresRow.laid W := by
    rw [← MakeChecks.laidMetH_plain _ _ _ (by kernel_rfl)]; exact hL
  have hP2 := hP.tail.tail
  have hP4 := hP2.tail.tail
  have hP5 := hP4.tail
  obtain ⟨a0, _, h0, _⟩ := laid_sentinel hP4 gRng gRngT Tryz.underlying229 rowE Tryz.underlying300 Tryz.underlying302 rfl rfl Tryz.underlying9 cellsErr cellsStr
  obtain ⟨a1, _, h1, _⟩ := laid_sentinel hP5 gSyn gSynT Tryz.underlying229 rowE Tryz.underlying300 Tryz.underlying302 rfl rfl Tryz.underlying9 cellsErr cellsStr
  exact ⟨cell_of_shapedOpen_int (zero := #[.int .i64 0]) (t := 3) hs (of_decide_eq_true (by kernel_rfl)) (by kernel_rfl) rfl (by kernel_rfl) (by kernel_rfl) Tryz.underlying3,
    Lib.tabIs_of_head gTab gTabT Tryz.underlying269 Tryz.underlying159 cellsU64 cellsTab hP2, ⟨_, _, h1⟩, ⟨_, _, h0⟩⟩
def flatD : Nat → DataW Unit → List Value
  | _ + 1, .lit (.int k z) => [.int k z]
  | n + 1, .agg ds => ds.flatMap (flatD n)
  | _, _ => []
def putC (cs : List Value) : Obj → Obj
  | .cells _ t frozen => .cells ⟨cs⟩ t frozen
  | o => o
noncomputable def lowB : Nat := (World.holding Tryz.prog default ⟨#[], #[], []⟩).heap.size
def rngS : ByteArray := ⟨#[118, 97, 108, 117, 101, 32, 111, 117, 116, 32, 111, 102, 32, 114, 97, 110, 103, 101]⟩
def synS : ByteArray := ⟨#[105, 110, 118, 97, 108, 105, 100, 32, 115, 121, 110, 116, 97, 120]⟩
noncomputable def laidWorld (os : Os) : World :=
  let w0 := World.holding Tryz.prog os ⟨#[.cells #[.string rngS] 302, .cells #[.string synS] 302], #[], []⟩
  { w0 with heap := (((((((w0.heap.modify 6 (putC (flatD 3 Rows.laid_math_bits_deBruijn32tab))).modify 7 (putC (flatD 3 Rows.laid_math_bits_deBruijn64tab))).modify
      0 (putC (flatD 3 Rows.laid_internal_strconv_uint64pow10))).modify 3 (putC (flatD 3 Rows.laid_unicode_utf8_acceptRanges))).modify
      5 (putC [.iface 300 (.pointer (some ⟨lowB, 0, none⟩))])).modify 4 (putC [.iface 300 (.pointer (some ⟨lowB + 1, 0, none⟩))])).modify
      2 (putC (flatD 3 Rows.laid_unicode_utf8_first))) }
theorem laid_met (os : Os) (args : Array Value) : laidMet Tryz.prog Rows.airMeasuresRow.laid ((laidWorld os).forCall (fun _ _ => 0) ⟨#[], args, []⟩).memory :=
  laidMet_of_run' 8 (by kernel_rfl) (by kernel_rfl)
end Go.Proofs.YtlnonmmaknhppaaGreatDoor
namespace Go.Proofs.YtlnonmmaknhppaaGreatDoor
open Go.RowKit Go.ChangeShapes Go.WideShapes Go.Joins Go.Deep
theorem laidOut : laidOutB Tryz.prog = true := by kernel_rfl
section
variable {H : Type} {enc : TypeId × Value → H} {w : World} {base : Nat} {spare : Nat → Bool} {held : Bool}
theorem i64_bd {n : Int} (h : (Lit.int .i64 n).wf = true) : -9223372036854775808 ≤ n ∧ n ≤ 9223372036854775807 := by
  simp only [Lit.wf, Bool.and_eq_true, decide_eq_true_eq] at h
  exact h
end
end Go.Proofs.YtlnonmmaknhppaaGreatDoor
namespace Go.Proofs.YtlnonmmaknhppaaGreatDoor
open Go.RowKit Go.ChangeShapes Go.WideShapes Go.ChangeAt
theorem band {a b : Bool} (h : a = true) (k : b = true) : (a && b) = true := by rw [h, k]; rfl
theorem factLaid : laidOutB Tryz.pinned.checked.prog = true := by kernel_rfl
theorem factMaps : mapsRowed Tryz.pinned.checked.prog = true := by kernel_rfl
theorem factHeard : Tryz.pinned.checked.prog.stopsHeard = true := by kernel_rfl
theorem factEnter : Tryz.pinned.checked.prog.mayEnter = true := by kernel_rfl
theorem factLifts : (Rows.airMeasuresRow.lifted == Tryz.pinned.checked.prog.liftsFinal) = true := by kernel_rfl
theorem factMake : (Tryz.pinned.checked.prog.make == some Rows.airMeasuresRow.make) = true := by kernel_rfl
theorem factKeys : (Rows.airMeasuresRow.plainKeys == Tryz.pinned.checked.prog.plainKeys) = true := by kernel_rfl
end Go.Proofs.YtlnonmmaknhppaaGreatDoor
namespace Go.Proofs.YtlnonmmaknhppaaGreatDoor
open Go.RowKit
def cyl0 : Cyl := ⟨0, 0, 0⟩
def CellsC (w : World) (a : Option Addr) (l : List Cyl) : Prop :=
  ∀ i, i < l.length → ∃ b off, a = some ⟨b, off, none⟩ ∧ w.cell? ⟨b, off + i * 3, none⟩ = some (.int .i64 (l.getD i cyl0).bore) ∧ w.cell? ⟨b, off + i * 3 + 1, none⟩ = some (.int .i64 (l.getD i cyl0).rod) ∧ w.cell? ⟨b, off + i * 3 + 2, none⟩ = some (.int .i64 (l.getD i cyl0).stroke)
theorem CellsC.ext {w w' : World} {a : Option Addr} {l : List Cyl} (h : CellsC w a l) (he : Ext w w') : CellsC w' a l := fun i hi => by
  obtain ⟨b, off, h1, h2, h3, h4⟩ := h i hi
  exact ⟨b, off, h1, he.cell h2, he.cell h3, he.cell h4⟩
def flatC : List Cyl → List Value
  | [] => []
  | c :: l => .int .i64 c.bore :: .int .i64 c.rod :: .int .i64 c.stroke :: flatC l
theorem flatC_length (l : List Cyl) : (flatC l).length = l.length * 3 := by
  induction l with
  | nil => rfl
  | cons c l ih => simp only [flatC, List.length_cons, ih]; omega
theorem flatC_append (l m : List Cyl) : flatC (l ++ m) = flatC l ++ flatC m := by
  induction l with
  | nil => rfl
  | cons c l ih => simp only [flatC, List.cons_append, ih]
theorem flatC_get (l : List Cyl) : ∀ i, i < l.length → (flatC l)[i * 3]? = some (.int .i64 (l.getD i cyl0).bore) ∧ (flatC l)[i * 3 + 1]? = some (.int .i64 (l.getD i cyl0).rod) ∧ (flatC l)[i * 3 + 2]? = some (.int .i64 (l.getD i cyl0).stroke) := by
  induction l with
  | nil => intro i h; simp at h
  | cons c l ih =>
    intro i h
    cases i with
    | zero => exact ⟨rfl, rfl, rfl⟩
    | succ i =>
      have := ih i (by simpa using h)
      rw [show (i + 1) * 3 = i * 3 + 1 + 1 + 1 by omega]
      simpa [flatC] using this
def OwnsC (w : World) (v : Value) (l : List Cyl) : Prop := w.ownsRow 0 49 3 v l.length (flatC l)
theorem OwnsC.nil (w : World) : OwnsC w (.slice none 0 0) [] := World.ownsRow_nil w 0 _ _
theorem OwnsC.ext {A B : World} {v : Value} {l : List Cyl} (h : OwnsC A v l) (k : Ext A B) : OwnsC B v l := rowExt h k
theorem OwnsC.reads {A : World} {v : Value} {l : List Cyl} (h : OwnsC A v l) : ∃ a cap, v = .slice a l.length cap ∧ CellsC A a l ∧ l.length ≤ maxLen := by
  obtain ⟨a, cap, hv, hm, hr⟩ := rowReads h
  refine ⟨a, cap, hv, fun i hi => ?_, hm⟩
  obtain ⟨b, hb, _, h1, _⟩ := hr _ _ (flatC_get l i hi).1
  obtain ⟨b2, hb2, _, h2, _⟩ := hr _ _ (flatC_get l i hi).2.1
  obtain ⟨b3, hb3, _, h3, _⟩ := hr _ _ (flatC_get l i hi).2.2
  rw [hb] at hb2 hb3
  cases hb2
  cases hb3
  exact ⟨b, 0, hb, by rw [Nat.zero_add]; exact h1, by rw [Nat.zero_add]; exact h2, by rw [Nat.zero_add]; exact h3⟩
theorem infoCyl : (Tryz.prog.info? 49).map (fun i => (i.zero, i.size, i.bytes)) = some (some (.agg #[.int .i64 0, .int .i64 0, .int .i64 0]), 3, 24) := by kernel_rfl
theorem ownsC_app {w : World} {v : Value} {l : List Cyl} {c : Cyl} (h : w.ownsRow 0 49 3 v (l.length + 1) (flatC l ++ flatC [c])) : OwnsC w v (l ++ [c]) := by
  unfold OwnsC
  rw [List.length_append, flatC_append]; exact h
theorem take_snoc {α : Type} {l : List α} {k : Nat} (d : α) (h : k < l.length) : l.take (k + 1) = l.take k ++ [l.getD k d] := by
  rw [List.take_succ_eq_append_getElem h, List.getD_eq_getElem?_getD, List.getElem?_eq_getElem h]; rfl
set_option maxHeartbeats 8000000 in
set_option maxRecDepth 100000 in
theorem all_any (l : List Cyl) (a : Option Addr) (cap : Nat) (w : World) (hl : l.length ≤ 100) (hc : CellsC w a l) :
    Calls Tryz.prog 42 #[.slice a l.length cap] w fun e w' => ∃ v, e = .returned v ∧ OwnsC w' v l ∧ Ext w w' := by
  have HC := Lib.hid hc
  have HS := Lib.hid (fun (c : Cyl) W => sent_any c W)
  clear hc
  obtain ⟨i0, hi, hi0, hi1, hi2⟩ := info_parts infoCyl
  go_enter Tryz.func42, Tryz.ntmps42
  go_wp2_with fail
  go_loopw [8, 3] (fun i v wr => ∃ k : Nat, k ≤ l.length ∧ i = .int .i64 k ∧ (∃ vv, v = vv ∧ Hid (OwnsC wr vv (l.take k) ∧ ∀ b, vv.ownBlock = some b → w.heap.size ≤ b)) ∧ Ext w wr) (fun i _ _ => l.length - (intOf i).toNat)
  case atStart => exact ⟨0, Nat.zero_le _, rfl, ⟨_, rfl, OwnsC.nil _, fun b hb => by cases hb⟩, Ext.refl _⟩
  case round =>
    obtain ⟨k, hk, rfl, ⟨vv, hvv, hO⟩, he⟩ := hrel
    obtain rfl := hvv.symm
    by_cases hlt : k < l.length
    · obtain ⟨b, off, ha, p0, p1, p2⟩ := HC.out.ext he k hlt
      subst ha
      have HT := Lib.hid (take_snoc cyl0 hlt)
      generalize l.getD k cyl0 = c at p0 p1 p2 HT
      have hln : (l.take k).length = k := by rw [List.length_take]; omega
      have O2 := Lib.hid hO.out.1
      have OB := Lib.hid hO.out.2
      have hsz := he.size
      have HSc := Lib.hid (HS.out c)
      obtain ⟨x, y, z⟩ := c
      dsimp only [cylV] at p0 p1 p2 HSc
      generalize l.take k = P at O2 HT hln
      clear hO
      have z0 := cell_lt p0
      dsimp only at z0
      have EB : Ext wr (wr.alloc (.cells #[.int .i64 x, .int .i64 y, .int .i64 z] 46)) := extA
      go_wp2_with fail
      refine (HSc.out _).mono ?_
      rintro e w5 ⟨rfl, hE⟩
      have E5 := EB.trans hE
      have ES : Ext w5 (w5.alloc (.cells #[.int .i64 x, .int .i64 y, .int .i64 z] 49)) := extA
      have hsz5 := E5.size
      have hO5 : Hid (OwnsC (w5.alloc (.cells #[.int .i64 x, .int .i64 y, .int .i64 z] 49)) vv P) := O2.out.ext (E5.trans ES)
      have hfl : Hid (∀ j u, (flatC [⟨x, y, z⟩])[j]? = some u → (w5.alloc (.cells #[.int .i64 x, .int .i64 y, .int .i64 z] 49)).cell? ((⟨w5.heap.size, 0, none⟩ : Addr).add j) = some u) := fun j u hu => by
        have hj := (List.getElem?_eq_some_iff.1 hu).1
        rw [flatC_length] at hj
        simp only [List.length_cons, List.length_nil] at hj
        rcases (show j = 0 ∨ j = 1 ∨ j = 2 by omega) with rfl | rfl | rfl <;> (cases hu; rw [Addr.add_lit]; go_simp)
      clear EB hE
      go_wp2_with (at_builtin; refine wpList_append1 _ rfl _ _ 74 rfl 49 i0 (.agg #[.int .i64 0, .int .i64 0, .int .i64 0]) 3 24 Tryz.underlying74 hi hi0 hi1 hi2 rfl (by decide) vv P.length (flatC P) rfl hO5.out ⟨w5.heap.size, 0, none⟩ 1 1 (by decide) (flatC [⟨x, y, z⟩]) rfl rfl hfl.out (by intro u hu; simp only [flatC, List.mem_cons, List.not_mem_nil, or_false] at hu; rcases hu with rfl | rfl | rfl <;> rfl) ?c2 ?c3 ?c4)
      case c2 => unfold maxLen; omega
      case c3 => omega
      case c4 =>
        intro v' w6 hown hend
        have O6 : Hid (OwnsC w6 v' (l.take (k + 1))) := by show OwnsC _ _ _; rw [HT.out]; exact ownsC_app (by rw [hln]; exact hown)
        have B6 : Ext w w6 := (he.trans (E5.trans ES)).trans' (hend.below (n := w.heap.size) (by simp; omega) OB.out) (Nat.le_refl _)
        have OB6 : Hid (∀ b, v'.ownBlock = some b → w.heap.size ≤ b) := hend.ge (n := w.heap.size) (by simp; omega) OB.out
        clear hown hend O2 OB HT hO5 hfl
        go_wp2
        refine ⟨⟨k + 1, by omega, by go_num, ⟨v', rfl, O6.out, OB6.out⟩, B6⟩, by simp [intOf]; omega⟩
    · have hke : k = l.length := by omega
      subst hke
      have hO1 := hO.out.1
      rw [List.take_length] at hO1
      have HO1 := Lib.hid hO1
      clear hO hO1
      go_wp2
      go_ret
      exact ⟨_, rfl, HO1.out, he⟩
end Go.Proofs.YtlnonmmaknhppaaGreatDoor
namespace Go.Proofs.YtlnonmmaknhppaaGreatDoor
abbrev Stk := Int × Bool
abbrev Stp := List Stk × Int
abbrev Sq := Int × List Stp
def ckStrokes : Int → List Stk → Int
  | _, [] => 0
  | last, y :: l => if y.1 < 0 ∨ 6 ≤ y.1 then 2 else if y.1 = last then 7 else if y.1 < last then 9 else ckStrokes y.1 l
def ckStep (x : Stp) : Int :=
  if x.1.length = 0 then 13 else if 6 < x.1.length then 5 else if ckStrokes (-1) x.1 ≠ 0 then ckStrokes (-1) x.1 else if x.2 < 0 ∨ 1000000 < x.2 then 2 else 0
def beh (e : Int → Bool) (l : List Stk) : Int → Bool := l.foldl (fun e y i => if i = y.1 then y.2 else e i) e
def anyHigh (n : Int) (l : List Stk) : Bool := l.any fun y => decide (n ≤ y.1)
def anySame (e : Int → Bool) (l : List Stk) : Bool := l.any fun y => e y.1 == y.2
def ckFit (n : Int) (x : Stp) (e : Int → Bool) : Int :=
  if ckStep x ≠ 0 then ckStep x else if anyHigh n x.1 then 6 else if anySame e x.1 then 14 else 0
def ckWalk (n : Int) : (Int → Bool) → List Stp → Int
  | _, [] => 0
  | e, x :: l => if ckFit n x e ≠ 0 then ckFit n x e else ckWalk n (beh e x.1) l
def none6 : Int → Bool := fun _ => false
def behAll (e : Int → Bool) (l : List Stp) : Int → Bool := l.foldl (fun e x => beh e x.1) e
def movesIn (a : Int) (x : Stp) : Bool := x.1.any fun y => y.1 == a
def movedIn (a : Int) (l : List Stp) : Bool := l.any (movesIn a)
def ints (n : Int) : List Int := (List.range n.toNat).map Int.ofNat
def ckSeq (s : Sq) : Int :=
  if s.1 < 1 ∨ 6 < s.1 then 2 else if s.2.length = 0 then 13 else if 64 < s.2.length then 5
  else if ckWalk s.1 none6 s.2 ≠ 0 then ckWalk s.1 none6 s.2
  else if (ints s.1).any (behAll none6 s.2) then 9
  else if (ints s.1).any (fun a => !movedIn a s.2) then 13 else 0
def apart (a b : Stp) : Bool := a.1.all fun y => !movesIn y.1 b
end Go.Proofs.YtlnonmmaknhppaaGreatDoor
namespace Go.Proofs.YtlnonmmaknhppaaGreatDoor
open Go.RowKit
def stk0 : Stk := (0, false)
def stp0 : Stp := ([], 0)
def CellsK (w : World) (a : Option Addr) (l : List Stk) : Prop :=
  ∀ i, i < l.length → ∃ b off, a = some ⟨b, off, none⟩ ∧ w.cell? ⟨b, off + i * 2, none⟩ = some (.int .i64 (l.getD i stk0).1) ∧ w.cell? ⟨b, off + i * 2 + 1, none⟩ = some (.bool (l.getD i stk0).2)
theorem CellsK.ext {w w' : World} {a : Option Addr} {l : List Stk} (h : CellsK w a l) (he : Ext w w') : CellsK w' a l := fun i hi => by
  obtain ⟨b, off, h1, h2, h3⟩ := h i hi
  exact ⟨b, off, h1, he.cell h2, he.cell h3⟩
theorem CellsK.nil (w : World) (a : Option Addr) : CellsK w a [] := fun i hi => by simp at hi
def SliceK (w : World) (v : Value) (l : List Stk) : Prop := ∃ a cap, v = .slice a l.length cap ∧ CellsK w a l ∧ l.length ≤ maxLen
theorem SliceK.ext {w w' : World} {v : Value} {l : List Stk} (h : SliceK w v l) (he : Ext w w') : SliceK w' v l := by
  obtain ⟨a, cap, h1, h2, h3⟩ := h
  exact ⟨a, cap, h1, h2.ext he, h3⟩
def CellsP (w : World) (a : Option Addr) (l : List Stp) : Prop :=
  ∀ i, i < l.length → ∃ b off v, a = some ⟨b, off, none⟩ ∧ w.cell? ⟨b, off + i * 2, none⟩ = some v ∧ SliceK w v (l.getD i stp0).1 ∧ w.cell? ⟨b, off + i * 2 + 1, none⟩ = some (.int .i64 (l.getD i stp0).2)
theorem CellsP.ext {w w' : World} {a : Option Addr} {l : List Stp} (h : CellsP w a l) (he : Ext w w') : CellsP w' a l := fun i hi => by
  obtain ⟨b, off, v, h1, h2, h3, h4⟩ := h i hi
  exact ⟨b, off, v, h1, he.cell h2, h3.ext he, he.cell h4⟩
theorem Room.len {a : Option Addr} {n cap : Nat} (h : Room a n cap) : n ≤ maxLen := Nat.le_trans h.1 h.2.1
instance roomLen (a : Option Addr) (n cap : Nat) : CoeOut (Room a n cap) (n ≤ maxLen) := ⟨Room.len⟩
def SliceP (w : World) (v : Value) (l : List Stp) : Prop := ∃ a cap, v = .slice a l.length cap ∧ CellsP w a l ∧ Room a l.length cap
theorem SliceP.ext {w w' : World} {v : Value} {l : List Stp} (h : SliceP w v l) (he : Ext w w') : SliceP w' v l := by
  obtain ⟨a, cap, h1, h2, h3⟩ := h
  exact ⟨a, cap, h1, h2.ext he, h3⟩
def SeqV (w : World) (v : Value) (s : Sq) : Prop := ∃ u, v = .agg #[.int .i64 s.1, u] ∧ SliceP w u s.2
theorem SeqV.ext {w w' : World} {v : Value} {s : Sq} (h : SeqV w v s) (he : Ext w w') : SeqV w' v s := by
  obtain ⟨u, h1, h2⟩ := h
  exact ⟨u, h1, h2.ext he⟩
end Go.Proofs.YtlnonmmaknhppaaGreatDoor
namespace Go.Proofs.YtlnonmmaknhppaaGreatDoor
open Go.RowKit
theorem infoStk : (Tryz.prog.info? 84).map (fun i => (i.zero, i.size, i.bytes)) = some (some (.agg #[.int .i64 0, .bool false]), 2, 16) := by kernel_rfl
def pairK (l : List Stk) : List (Value × Value) := l.map fun y => (.int .i64 y.1, .bool y.2)
def flatK (l : List Stk) : List Value := flat2 (pairK l)
theorem flatK_length (l : List Stk) : (flatK l).length = l.length * 2 := by unfold flatK; rw [flat2_length]; simp [pairK]
theorem flatK_append (l m : List Stk) : flatK (l ++ m) = flatK l ++ flatK m := by unfold flatK pairK; rw [List.map_append, flat2_append]
theorem flatK_get (l : List Stk) (i : Nat) (h : i < l.length) : (flatK l)[i * 2]? = some (.int .i64 (l.getD i stk0).1) ∧ (flatK l)[i * 2 + 1]? = some (.bool (l.getD i stk0).2) := by
  have := flat2_get (pairK l) i (by simpa [pairK] using h)
  unfold flatK
  rw [this.1, this.2]
  simp [pairK, List.getD, h]
theorem flat2_two {l : List (Value × Value)} {j : Nat} {u : Value} (h : (flat2 l)[j]? = some u) : ∃ i, ∃ hi : i < l.length, (j = i * 2 ∧ u = l[i].1) ∨ (j = i * 2 + 1 ∧ u = l[i].2) := by
  have hj := (List.getElem?_eq_some_iff.1 h).1
  rw [flat2_length] at hj
  have hi : j / 2 < l.length := by omega
  have hg := flat2_get l (j / 2) hi
  refine ⟨j / 2, hi, ?_⟩
  rcases Nat.mod_two_eq_zero_or_one j with h0 | h0
  · have e : j / 2 * 2 = j := by omega
    rw [e] at hg
    exact .inl ⟨e.symm, by rw [hg.1] at h; exact (Option.some.inj h).symm⟩
  · have e : j / 2 * 2 + 1 = j := by omega
    rw [e] at hg
    exact .inr ⟨e.symm, by rw [hg.2] at h; exact (Option.some.inj h).symm⟩
theorem flatK_one (l : List Stk) : ∀ u ∈ flatK l, u.oneCell' = true := by
  intro u hu
  obtain ⟨j, hj, e⟩ := List.mem_iff_getElem.1 hu
  obtain ⟨i, hi, ⟨_, h⟩ | ⟨_, h⟩⟩ := flat2_two (l := pairK l) (j := j) (u := u) (by rw [← e]; exact List.getElem?_eq_getElem hj)
  · rw [h]; simp only [pairK, List.getElem_map]; rfl
  · rw [h]; simp only [pairK, List.getElem_map]; rfl
theorem CellsK.flat {w : World} {b off : Nat} {l : List Stk} (h : CellsK w (some ⟨b, off, none⟩) l) (j : Nat) (u : Value) (hu : (flatK l)[j]? = some u) : w.cell? ((⟨b, off, none⟩ : Addr).add j) = some u := by
  obtain ⟨i, hi, hh⟩ := flat2_two hu
  have hi' : i < l.length := by simpa [pairK] using hi
  obtain ⟨b', off', hb, h1, h2⟩ := h i hi'
  cases hb
  rw [Addr.add_lit]
  rcases hh with ⟨rfl, rfl⟩ | ⟨rfl, rfl⟩
  · rw [h1]; simp [pairK, List.getD, hi']
  · rw [← Nat.add_assoc, h2]; simp [pairK, List.getD, hi']
def OwnsK (w : World) (v : Value) (l : List Stk) : Prop := w.ownsRow 0 84 2 v l.length (flatK l)
theorem OwnsK.nil (w : World) : OwnsK w (.slice none 0 0) [] := World.ownsRow_nil w 0 _ _
theorem OwnsK.ext {A B : World} {v : Value} {l : List Stk} (h : OwnsK A v l) (k : Ext A B) : OwnsK B v l := rowExt h k
theorem OwnsK.reads {A : World} {v : Value} {l : List Stk} (h : OwnsK A v l) : ∃ a cap, v = .slice a l.length cap ∧ CellsK A a l ∧ l.length ≤ maxLen ∧ (∀ b off, a = some ⟨b, off, none⟩ → l ≠ [] → off = 0 ∧ v.ownBlock = some b ∧ ∀ i, i < l.length → A.frozen? ⟨b, i * 2, none⟩ = false ∧ A.frozen? ⟨b, i * 2 + 1, none⟩ = false) := by
  obtain ⟨a, cap, hv, hm, hr⟩ := rowReads h
  refine ⟨a, cap, hv, fun i hi => ?_, hm, fun b off hb hne => ?_⟩
  · obtain ⟨b, hb, _, h1, _⟩ := hr _ _ (flatK_get l i hi).1
    obtain ⟨b', hb', _, h2, _⟩ := hr _ _ (flatK_get l i hi).2
    rw [hb] at hb'
    cases hb'
    exact ⟨b, 0, hb, by rw [Nat.zero_add]; exact h1, by rw [Nat.zero_add]; exact h2⟩
  · have h0 : 0 < l.length := List.length_pos_iff.2 hne
    obtain ⟨b', hb', h3, _, _⟩ := hr _ _ (flatK_get l 0 h0).1
    rw [hb] at hb'
    cases hb'
    refine ⟨rfl, h3, fun i hi => ?_⟩
    obtain ⟨b1, e1, _, _, f1⟩ := hr _ _ (flatK_get l i hi).1
    obtain ⟨b2, e2, _, _, f2⟩ := hr _ _ (flatK_get l i hi).2
    rw [hb] at e1 e2
    cases e1
    cases e2
    exact ⟨f1, f2⟩
theorem OwnsK.slice {A : World} {v : Value} {l : List Stk} (h : OwnsK A v l) : SliceK A v l := by
  obtain ⟨a, cap, h1, h2, h3, _⟩ := h.reads
  exact ⟨a, cap, h1, h2, h3⟩
end Go.Proofs.YtlnonmmaknhppaaGreatDoor
namespace Go.Proofs.YtlnonmmaknhppaaGreatDoor
open Go.RowKit
def knownB (a : Int) : Bool := decide (0 ≤ a) && decide (a < 6)
theorem known_any (a : Int) (w : World) : Calls Tryz.prog 232 #[.int .i64 a] w fun e w' => e = .returned (.bool (knownB a)) ∧ w = w' := by
  unfold knownB
  go_enter Tryz.func232, Tryz.ntmps232
  go_wp2
  all_goals go_ret
  all_goals exact ⟨ret_bool (by first | rfl | (simp; done) | (simp; omega)), rfl⟩
theorem Actuator_any (a : Int) (w : World) : Calls Tryz.prog 173 #[.int .i64 a] w fun e w' => e = .returned (.bool (knownB a)) ∧ w = w' := by
  unfold knownB
  go_enter Tryz.func173, Tryz.ntmps173
  go_wp2
  all_goals go_ret
  all_goals exact ⟨ret_bool (by first | rfl | (simp; done) | (simp; omega)), rfl⟩
def timeB (a : Int) : Bool := decide (0 ≤ a) && decide (a ≤ 1000000)
theorem Time_any (a : Int) (w : World) : Calls Tryz.prog 174 #[.int .i64 a] w fun e w' => e = .returned (.bool (timeB a)) ∧ w = w' := by
  unfold timeB
  go_enter Tryz.func174, Tryz.ntmps174
  go_wp2
  all_goals go_ret
  all_goals exact ⟨ret_bool (by first | rfl | (simp; done) | (simp; omega)), rfl⟩
theorem ckStrokes_cons {la : Int} {y : Stk} {l : List Stk} (e : Int) (h : ckStrokes la (y :: l) = e) :
    (knownB y.1 = false → e = 2) ∧ (knownB y.1 = true → (y.1 = la → e = 7) ∧ (y.1 ≠ la → (y.1 < la → e = 9) ∧ (¬ y.1 < la → ckStrokes y.1 l = e))) := by
  unfold ckStrokes at h
  unfold knownB
  refine ⟨fun k => ?_, fun k => ⟨fun k2 => ?_, fun k2 => ⟨fun k3 => ?_, fun k3 => ?_⟩⟩⟩
  all_goals simp only [Bool.and_eq_true, Bool.and_eq_false_iff, decide_eq_true_eq, decide_eq_false_iff_not] at k
  · rw [if_pos (by omega)] at h; exact h.symm
  · rw [if_neg (by omega), if_pos k2] at h; exact h.symm
  · rw [if_neg (by omega), if_neg k2, if_pos k3] at h; exact h.symm
  · rw [if_neg (by omega), if_neg k2, if_neg k3] at h; exact h
theorem drop_cons {α : Type} (l : List α) (d : α) {k : Nat} (h : k < l.length) : l.drop k = l.getD k d :: l.drop (k + 1) := by
  rw [List.drop_eq_getElem_cons h, List.getD_eq_getElem?_getD, List.getElem?_eq_getElem h]; rfl
set_option maxHeartbeats 1000000 in
theorem CheckStep_any (l : List Stk) (wait : Int) (a : Option Addr) (cap : Nat) (w : World) (hl : l.length ≤ maxLen) (hc : CellsK w a l) :
    Calls Tryz.prog 208 #[.agg #[.slice a l.length cap, .int .i64 wait]] w fun e w' => e = .returned (.int .i64 (ckStep (l, wait))) ∧ Ext w w' := by
  have HC := Lib.hid hc
  unfold maxLen at hl
  clear hc
  by_cases h0 : l.length = 0
  · have hf : Hid (ckStep (l, wait) = 13) := by show _ = _; unfold ckStep; rw [if_pos h0]
    have h0' : ((l.length : Int) == 0) = true := by simp [h0]
    have h0b : (l.length == 0) = true := by simp [h0]
    go_enter Tryz.func208, Tryz.ntmps208
    go_wp2
    all_goals go_ret
    all_goals exact ⟨ret_int hf.out.symm, (Ext.refl _).alloc _⟩
  · have h0' : ((l.length : Int) == 0) = false := beq_eq_false_iff_ne.2 (by omega)
    have h0b : (l.length == 0) = false := beq_eq_false_iff_ne.2 h0
    by_cases h6 : 6 < l.length
    · have hf : Hid (ckStep (l, wait) = 5) := by show _ = _; unfold ckStep; rw [if_neg h0, if_pos h6]
      go_enter Tryz.func208, Tryz.ntmps208
      go_wp2
      all_goals go_ret
      all_goals exact ⟨ret_int hf.out.symm, (Ext.refl _).alloc _⟩
    · have hf : Hid (ckStep (l, wait) = if ckStrokes (-1) l ≠ 0 then ckStrokes (-1) l else if wait < 0 ∨ 1000000 < wait then 2 else 0) := by show _ = _; unfold ckStep; rw [if_neg h0, if_neg h6]
      clear h0
      go_enter Tryz.func208, Tryz.ntmps208
      go_wp2
      have H : Ext w (w.alloc (.cells #[.slice a l.length cap, .int .i64 wait] 128)) := (Ext.refl _).alloc _
      have c1 : (w.alloc (.cells #[.slice a l.length cap, .int .i64 wait] 128)).cell? ⟨w.heap.size, 1, none⟩ = some (.int .i64 wait) := by go_simp
      generalize w.alloc (.cells #[.slice a l.length cap, .int .i64 wait] 128) = W at H c1 ⊢
      have HC : Hid (CellsK W a l) := HC.out.ext H
      go_loopw [19, 4] (fun i la wr => ∃ k : Nat, k ≤ l.length ∧ i = .int .i64 k ∧ (∃ z : Int, la = .int .i64 z ∧ Hid (ckStrokes z (l.drop k) = ckStrokes (-1) l)) ∧ Ext W wr) (fun i _ _ => l.length - (intOf i).toNat)
      case atStart => exact ⟨0, Nat.zero_le _, rfl, ⟨-1, rfl, by show _ = _; rfl⟩, Ext.refl _⟩
      case round =>
        obtain ⟨k, hk, rfl, ⟨z, rfl, hz⟩, he⟩ := hrel
        have d1 := he.cell c1
        by_cases hlt : k < l.length
        · obtain ⟨b, off, ha, e1, e2⟩ := HC.out.ext he k hlt
          subst ha
          have hz1 := hz.out
          rw [drop_cons l stk0 hlt] at hz1
          have HZ := Lib.hid (ckStrokes_cons _ hz1)
          clear hz1 hz
          generalize l.getD k stk0 = y at e1 e2 HZ
          obtain ⟨ya, yo⟩ := y
          dsimp only at e1 e2 HZ
          have z1 := cell_lt e1
          dsimp only at z1
          cases hkn : knownB ya
          · have hf2 : Hid (ckStep (l, wait) = 2) := by
              show _ = _
              have h := HZ.out.1 hkn
              rw [hf.out, h]; rfl
            clear HZ
            go_wp2_with (go_at_call 232; (with_reducible refine (known_any _ _).mono ?_); rintro e w1 ⟨rfl, rfl⟩)
            go_ret
            exact ⟨ret_int hf2.out.symm, (H.trans he).alloc _⟩
          · have HZ2 := Lib.hid (HZ.out.2 hkn)
            clear HZ
            by_cases h7 : ya = z
            · have hf2 : Hid (ckStep (l, wait) = 7) := by
                show _ = _
                have h := HZ2.out.1 h7
                rw [hf.out, h]; rfl
              subst h7
              clear HZ2
              go_wp2_with (go_at_call 232; (with_reducible refine (known_any _ _).mono ?_); rintro e w1 ⟨rfl, rfl⟩)
              go_ret
              exact ⟨ret_int hf2.out.symm, (H.trans he).alloc _⟩
            · have h7b : (ya == z) = false := by simpa using h7
              have HZ3 := Lib.hid (HZ2.out.2 h7)
              clear HZ2 h7
              by_cases h9 : ya < z
              · have hf2 : Hid (ckStep (l, wait) = 9) := by
                  show _ = _
                  have h := HZ3.out.1 h9
                  rw [hf.out, h]; rfl
                clear HZ3
                go_wp2_with (go_at_call 232; (with_reducible refine (known_any _ _).mono ?_); rintro e w1 ⟨rfl, rfl⟩)
                go_ret
                exact ⟨ret_int hf2.out.symm, (H.trans he).alloc _⟩
              · have HZ4 := Lib.hid (HZ3.out.2 h9)
                clear HZ3
                go_wp2_with (go_at_call 232; (with_reducible refine (known_any _ _).mono ?_); rintro e w1 ⟨rfl, rfl⟩)
                refine ⟨⟨k + 1, by omega, by go_num, ⟨ya, rfl, HZ4⟩, he.alloc _⟩, by simp [intOf]; omega⟩
        · have hz1 := hz.out
          rw [List.drop_eq_nil_of_le (by omega)] at hz1
          have hf2 : Hid (ckStep (l, wait) = if wait < 0 ∨ 1000000 < wait then 2 else 0) := by
            show _ = _
            rw [hf.out, ← hz1]; rfl
          clear hz1 hz hf
          by_cases g1 : wait < 0
          · go_wp2
            all_goals go_ret
            all_goals exact ⟨ret_int (by rw [hf2.out, if_pos (Or.inl g1)]), H.trans he⟩
          · by_cases g2 : 1000000 < wait
            · go_wp2
              all_goals go_ret
              all_goals exact ⟨ret_int (by rw [hf2.out, if_pos (Or.inr g2)]), H.trans he⟩
            · go_wp2
              all_goals go_ret
              all_goals exact ⟨ret_int (by rw [hf2.out, if_neg (by omega)]), H.trans he⟩
def lastAt (l : List Stk) (k : Nat) : Int := if k = 0 then -1 else (l.getD (k - 1) stk0).1
set_option maxHeartbeats 2000000 in
theorem CheckStepR_any (l : List Stk) (wait : Int) (a : Option Addr) (cap : Nat) (w : World) (hl : l.length ≤ maxLen) (hc : CellsK w a l) :
    Calls Tryz.prog 133 #[.agg #[.slice a l.length cap, .int .i64 wait]] w fun e w' => e = .returned (.int .i64 (ckStep (l, wait))) ∧ Ext w w' := by
  have HC := Lib.hid hc
  unfold maxLen at hl
  clear hc
  by_cases h0 : l.length = 0
  · have hf : Hid (ckStep (l, wait) = 13) := by show _ = _; unfold ckStep; rw [if_pos h0]
    have h0' : ((l.length : Int) == 0) = true := by simp [h0]
    have h0b : (l.length == 0) = true := by simp [h0]
    go_enter Tryz.func133, Tryz.ntmps133
    go_wp2
    all_goals go_ret
    all_goals exact ⟨ret_int hf.out.symm, (Ext.refl _).alloc _⟩
  · have h0' : ((l.length : Int) == 0) = false := beq_eq_false_iff_ne.2 (by omega)
    have h0b : (l.length == 0) = false := beq_eq_false_iff_ne.2 h0
    by_cases h6 : 6 < l.length
    · have hf : Hid (ckStep (l, wait) = 5) := by show _ = _; unfold ckStep; rw [if_neg h0, if_pos h6]
      go_enter Tryz.func133, Tryz.ntmps133
      go_wp2
      all_goals go_ret
      all_goals exact ⟨ret_int hf.out.symm, (Ext.refl _).alloc _⟩
    · have hf : Hid (ckStep (l, wait) = if ckStrokes (-1) l ≠ 0 then ckStrokes (-1) l else if wait < 0 ∨ 1000000 < wait then 2 else 0) := by show _ = _; unfold ckStep; rw [if_neg h0, if_neg h6]
      clear h0
      go_enter Tryz.func133, Tryz.ntmps133
      go_wp2
      have H : Ext w (w.alloc (.cells #[.slice a l.length cap, .int .i64 wait] 128)) := (Ext.refl _).alloc _
      have c0 : (w.alloc (.cells #[.slice a l.length cap, .int .i64 wait] 128)).cell? ⟨w.heap.size, 0, none⟩ = some (.slice a l.length cap) := by go_simp
      have c1 : (w.alloc (.cells #[.slice a l.length cap, .int .i64 wait] 128)).cell? ⟨w.heap.size, 1, none⟩ = some (.int .i64 wait) := by go_simp
      generalize w.alloc (.cells #[.slice a l.length cap, .int .i64 wait] 128) = W at H c0 c1 ⊢
      have HC : Hid (CellsK W a l) := HC.out.ext H
      go_loopw [3] (fun i wr => ∃ k : Nat, k ≤ l.length ∧ i = .int .i64 k ∧ Hid (ckStrokes (lastAt l k) (l.drop k) = ckStrokes (-1) l) ∧ Ext W wr) (fun i _ => l.length - (intOf i).toNat)
      case atStart => exact ⟨0, Nat.zero_le _, rfl, by show _ = _; rfl, Ext.refl _⟩
      case round =>
        obtain ⟨k, hk, rfl, hz, he⟩ := hrel
        have d0 := he.cell c0
        have d1 := he.cell c1
        by_cases hlt : k < l.length
        · obtain ⟨b, off, ha, e1, e2⟩ := HC.out.ext he k hlt
          have hz1 := hz.out
          rw [drop_cons l stk0 hlt] at hz1
          have HZ := Lib.hid (ckStrokes_cons _ hz1)
          have HL : Hid (lastAt l (k + 1) = (l.getD k stk0).1) := by show _ = _; unfold lastAt; simp
          have HK : Hid (0 < k → ∃ z, w.heap.size = w.heap.size ∧ lastAt l k = z ∧ W.cell? ⟨b, off + (k - 1) * 2, none⟩ = some (.int .i64 z)) := fun hk0 => by
            obtain ⟨b', off', ha', e1', _⟩ := HC.out (k - 1) (by omega)
            rw [ha] at ha'
            injection ha' with ha'
            injection ha' with h1 h2 _
            subst h1; subst h2
            exact ⟨_, rfl, rfl, by rw [e1']; unfold lastAt; rw [if_neg (by omega)]⟩
          subst ha
          clear hz1 hz
          generalize l.getD k stk0 = y at e1 e2 HZ HL
          obtain ⟨ya, yo⟩ := y
          dsimp only at e1 e2 HZ HL
          have z1 := cell_lt e1
          dsimp only at z1
          cases hkn : knownB ya
          · have hf2 : Hid (ckStep (l, wait) = 2) := by
              show _ = _
              have h := HZ.out.1 hkn
              rw [hf.out, h]; rfl
            clear HZ
            go_wp2_with (go_at_call 173; (with_reducible refine (Actuator_any _ _).mono ?_); rintro e w1 ⟨rfl, rfl⟩)
            go_ret
            exact ⟨ret_int hf2.out.symm, H.trans he⟩
          · have HZ2 := Lib.hid (HZ.out.2 hkn)
            clear HZ
            have hya : 0 ≤ ya ∧ ya < 6 := by unfold knownB at hkn; simpa using hkn
            by_cases hk0 : k = 0
            · subst hk0
              have e1 : wr.cell? ⟨b, off, none⟩ = some (.int .i64 ya) := by simpa using e1
              have hlast : lastAt l 0 = -1 := rfl
              rw [hlast] at HZ2
              have hfin : Hid (ckStrokes ya (l.drop 1) = ckStrokes (-1) l) := (HZ2.out.2 (by omega)).2 (by omega)
              clear HZ2 HK hlast
              go_wp2_with (go_at_call 173; (with_reducible refine (Actuator_any _ _).mono ?_); rintro e w1 ⟨rfl, rfl⟩)
              go_quiet (fail)
              go_wp2
              go_quiet (fail)
              go_wp2
              refine ⟨⟨1, by omega, by go_num, by rw [HL.out]; exact hfin, extA⟩, by simp [intOf]; omega⟩
            · obtain ⟨z, _, hz3, hz4⟩ := HK.out (by omega)
              rw [hz3] at HZ2
              clear HK hz3
              have hz4 := he.cell hz4
              have hk1 : 0 < k := by omega
              have hk2 : ((k : Int) - 1).toNat = k - 1 := by omega
              have hk3 : 0 ≤ (k : Int) - 1 := by omega
              have hk4 : (k : Int) - 1 < l.length := by omega
              clear hk0
              by_cases h7 : ya = z
              · have hf2 : Hid (ckStep (l, wait) = 7) := by
                  show _ = _
                  have h := HZ2.out.1 h7
                  rw [hf.out, h]; rfl
                subst h7
                clear HZ2
                go_wp2_with (go_at_call 173; (with_reducible refine (Actuator_any _ _).mono ?_); rintro e w1 ⟨rfl, rfl⟩)
                go_quiet (fail)
                go_wp2
                go_ret
                exact ⟨ret_int hf2.out.symm, extA⟩
              · have h7b : (ya == z) = false := by simpa using h7
                have HZ3 := Lib.hid (HZ2.out.2 h7)
                clear HZ2 h7
                by_cases h9 : ya < z
                · have hf2 : Hid (ckStep (l, wait) = 9) := by
                    show _ = _
                    have h := HZ3.out.1 h9
                    rw [hf.out, h]; rfl
                  clear HZ3
                  go_wp2_with (go_at_call 173; (with_reducible refine (Actuator_any _ _).mono ?_); rintro e w1 ⟨rfl, rfl⟩)
                  go_quiet (fail)
                  go_wp2
                  go_quiet (fail)
                  go_wp2
                  go_ret
                  exact ⟨ret_int hf2.out.symm, extA⟩
                · have HZ4 := Lib.hid (HZ3.out.2 h9)
                  clear HZ3
                  go_wp2_with (go_at_call 173; (with_reducible refine (Actuator_any _ _).mono ?_); rintro e w1 ⟨rfl, rfl⟩)
                  go_quiet (fail)
                  go_wp2
                  go_quiet (fail)
                  go_wp2
                  refine ⟨⟨k + 1, by omega, by go_num, by rw [HL.out]; exact HZ4, extA⟩, by simp [intOf]; omega⟩
        · have hz1 := hz.out
          rw [List.drop_eq_nil_of_le (by omega)] at hz1
          have hf2 : Hid (ckStep (l, wait) = if wait < 0 ∨ 1000000 < wait then 2 else 0) := by
            show _ = _
            rw [hf.out, ← hz1]; rfl
          clear hz1 hz hf
          cases g : timeB wait
          · have hg : wait < 0 ∨ 1000000 < wait := by unfold timeB at g; simp at g; omega
            have hf2 : Hid (ckStep (l, wait) = 2) := by show _ = _; rw [hf2.out, if_pos hg]
            clear hg
            go_wp2_with (go_at_call 174; (with_reducible refine (Time_any _ _).mono ?_); rintro e w1 ⟨rfl, rfl⟩)
            go_ret
            exact ⟨ret_int hf2.out.symm, H.trans he⟩
          · have hg : ¬ (wait < 0 ∨ 1000000 < wait) := by unfold timeB at g; simp at g; omega
            have hf2 : Hid (ckStep (l, wait) = 0) := by show _ = _; rw [hf2.out, if_neg hg]
            clear hg
            go_wp2_with (go_at_call 174; (with_reducible refine (Time_any _ _).mono ?_); rintro e w1 ⟨rfl, rfl⟩)
            go_ret
            exact ⟨ret_int hf2.out.symm, H.trans he⟩
end Go.Proofs.YtlnonmmaknhppaaGreatDoor
namespace Go.Proofs.YtlnonmmaknhppaaGreatDoor
open Go.RowKit
def endsV (e : Int → Bool) : Value := .agg #[.bool (e 0), .bool (e 1), .bool (e 2), .bool (e 3), .bool (e 4), .bool (e 5)]
def EndsAt (w : World) (p : Nat) (e : Int → Bool) : Prop := ∀ k : Nat, k < 6 → w.cell? ⟨p, k, none⟩ = some (.bool (e k)) ∧ w.frozen? ⟨p, k, none⟩ = false
theorem EndsAt.ext {w w' : World} {p : Nat} {e : Int → Bool} (h : EndsAt w p e) (he : Ext w w') : EndsAt w' p e := fun k hk =>
  ⟨he.cell (h k hk).1, (Below.frozen (p := ⟨p, k, none⟩) he (cell_lt (h k hk).1)).trans (h k hk).2⟩
theorem EndsAt.set {w : World} {p : Nat} {e : Int → Bool} (h : EndsAt w p e) {a : Int} (h0 : 0 ≤ a) (h6 : a < 6) (b : Bool) : EndsAt (w.setCell ⟨p, a.toNat, none⟩ (.bool b)) p (fun i => if i = a then b else e i) := fun k hk => by
  refine ⟨?_, by rw [World.frozen?_setCell]; exact (h k hk).2⟩
  by_cases c : k = a.toNat
  · subst c
    rw [World.cell?_setCell_same _ _ _ (h _ hk).1]; show _ = some (Value.bool (if _ then _ else _)); rw [if_pos (by omega)]
  · rw [World.cell?_setCell_other _ _ _ _ (fun x => by simp only [Addr.mk.injEq] at x; omega), (h k hk).1]; show _ = some (Value.bool (if _ then _ else _)); rw [if_neg (by omega)]
theorem EndsAt.other {w : World} {p q : Nat} {e : Int → Bool} (h : EndsAt w p e) (hq : q ≠ p) (j : Nat) (v : Value) : EndsAt (w.setCell ⟨q, j, none⟩ v) p e := fun k hk => by
  refine ⟨?_, by rw [World.frozen?_setCell]; exact (h k hk).2⟩
  rw [World.cell?_setCell_other _ _ _ _ (fun x => by simp only [Addr.mk.injEq] at x; omega), (h k hk).1]
theorem EndsAt.drew {w : World} {p : Nat} {e : Int → Bool} (h : EndsAt w p e) : EndsAt w.drew p e := h.ext (Ext.refl _).drew
theorem ends_new {w : World} {t : TypeId} {p : Nat} (hp : w.heap.size = p) (e : Int → Bool) : EndsAt (w.alloc (.cells #[.bool (e 0), .bool (e 1), .bool (e 2), .bool (e 3), .bool (e 4), .bool (e 5)] t)) p e := by
  subst hp
  intro k hk
  have : k = 0 ∨ k = 1 ∨ k = 2 ∨ k = 3 ∨ k = 4 ∨ k = 5 := by omega
  rcases this with rfl | rfl | rfl | rfl | rfl | rfl
  all_goals exact ⟨by rw [World.cell?_alloc_new]; rfl, by simp [go_sem]⟩
theorem ckStrokes_known {l : List Stk} {z : Int} (h : ckStrokes z l = 0) : ∀ y ∈ l, 0 ≤ y.1 ∧ y.1 < 6 := by
  induction l generalizing z with
  | nil => intro y hy; cases hy
  | cons x l ih =>
    unfold ckStrokes at h
    by_cases h1 : x.1 < 0 ∨ 6 ≤ x.1
    · rw [if_pos h1] at h; cases h
    · rw [if_neg h1] at h
      by_cases h2 : x.1 = z
      · rw [if_pos h2] at h; cases h
      · rw [if_neg h2] at h
        by_cases h3 : x.1 < z
        · rw [if_pos h3] at h; cases h
        · rw [if_neg h3] at h
          intro y hy
          rcases List.mem_cons.1 hy with rfl | hy
          · omega
          · exact ih h y hy
theorem ckStep_strokes {x : Stp} (h : ckStep x = 0) : ckStrokes (-1) x.1 = 0 ∧ x.1.length ≤ 6 ∧ 0 < x.1.length ∧ 0 ≤ x.2 ∧ x.2 ≤ 1000000 := by
  unfold ckStep at h
  by_cases h1 : x.1.length = 0
  · rw [if_pos h1] at h; cases h
  · rw [if_neg h1] at h
    by_cases h2 : 6 < x.1.length
    · rw [if_pos h2] at h; cases h
    · rw [if_neg h2] at h
      by_cases h3 : ckStrokes (-1) x.1 ≠ 0
      · rw [if_pos h3] at h; exact absurd h h3
      · rw [if_neg h3] at h
        by_cases h4 : x.2 < 0 ∨ 1000000 < x.2
        · rw [if_pos h4] at h; cases h
        · omega
theorem ckStep_known {x : Stp} (h : ckStep x = 0) : ∀ k, k < x.1.length → 0 ≤ (x.1.getD k stk0).1 ∧ (x.1.getD k stk0).1 < 6 := fun k hk => by
  rw [List.getD_eq_getElem?_getD, List.getElem?_eq_getElem hk]
  exact ckStrokes_known (ckStep_strokes h).1 _ (List.getElem_mem hk)
theorem any_drop {α : Type} (f : α → Bool) (l : List α) (d : α) {k : Nat} (h : k < l.length) {b : Bool} (e : (l.drop k).any f = b) : (f (l.getD k d) || (l.drop (k + 1)).any f) = b := by
  rw [drop_cons l d h, List.any_cons] at e; exact e
theorem high_drop {n : Int} {l : List Stk} {k : Nat} (h : k < l.length) {b : Bool} (e : anyHigh n (l.drop k) = b) : (decide (n ≤ (l.getD k stk0).1) || anyHigh n (l.drop (k + 1))) = b := any_drop (fun y : Stk => decide (n ≤ y.1)) l stk0 h e
theorem same_drop {f : Int → Bool} {l : List Stk} {k : Nat} (h : k < l.length) {b : Bool} (e : anySame f (l.drop k) = b) : ((f (l.getD k stk0).1 == (l.getD k stk0).2) || anySame f (l.drop (k + 1))) = b := any_drop (fun y : Stk => f y.1 == y.2) l stk0 h e
set_option maxHeartbeats 2000000 in
theorem fits_any (n : Int) (sv : Value) (l : List Stk) (wait : Int) (a : Option Addr) (cap : Nat) (e : Int → Bool) (w : World) (hl : l.length ≤ maxLen) (hc : CellsK w a l) :
    Calls Tryz.prog 168 #[.agg #[.int .i64 n, sv], .agg #[.slice a l.length cap, .int .i64 wait], endsV e] w fun r w' => r = .returned (.int .i64 (ckFit n (l, wait) e)) ∧ Ext w w' := by
  have HC := Lib.hid hc
  have HL := Lib.hid hl
  unfold maxLen at hl
  unfold endsV
  clear hc
  by_cases h0 : ckStep (l, wait) = 0
  · have hf : Hid (ckFit n (l, wait) e = if anyHigh n l then 6 else if anySame e l then 14 else 0) := by show _ = _; unfold ckFit; rw [if_neg (by simp [h0])]
    have HK := Lib.hid (ckStep_known h0)
    have H0 := Lib.hid h0
    clear h0
    go_enter Tryz.func168, Tryz.ntmps168
    go_wp2_with fail
    have E1 : Ext w (((w.alloc (.cells #[.int .i64 n, sv] 71)).alloc (.cells #[.slice a l.length cap, .int .i64 wait] 128)).alloc (.cells #[.bool (e 0), .bool (e 1), .bool (e 2), .bool (e 3), .bool (e 4), .bool (e 5)] 216)) := extA
    have c1 : (((w.alloc (.cells #[.int .i64 n, sv] 71)).alloc (.cells #[.slice a l.length cap, .int .i64 wait] 128)).alloc (.cells #[.bool (e 0), .bool (e 1), .bool (e 2), .bool (e 3), .bool (e 4), .bool (e 5)] 216)).cell? ⟨w.heap.size, 0, none⟩ = some (.int .i64 n) := by go_simp
    have c2 : (((w.alloc (.cells #[.int .i64 n, sv] 71)).alloc (.cells #[.slice a l.length cap, .int .i64 wait] 128)).alloc (.cells #[.bool (e 0), .bool (e 1), .bool (e 2), .bool (e 3), .bool (e 4), .bool (e 5)] 216)).cell? ⟨w.heap.size + 1, 0, none⟩ = some (.slice a l.length cap) := by go_simp
    have c3 : EndsAt (((w.alloc (.cells #[.int .i64 n, sv] 71)).alloc (.cells #[.slice a l.length cap, .int .i64 wait] 128)).alloc (.cells #[.bool (e 0), .bool (e 1), .bool (e 2), .bool (e 3), .bool (e 4), .bool (e 5)] 216)) (w.heap.size + 1 + 1) e := ends_new (by simp) e
    generalize ((w.alloc (.cells #[.int .i64 n, sv] 71)).alloc (.cells #[.slice a l.length cap, .int .i64 wait] 128)).alloc (.cells #[.bool (e 0), .bool (e 1), .bool (e 2), .bool (e 3), .bool (e 4), .bool (e 5)] 216) = W at E1 c1 c2 c3 ⊢
    refine (CheckStep_any l wait a cap _ HL.out (HC.out.ext E1)).mono ?_
    rintro r w1 ⟨rfl, hE⟩
    rw [H0.out]
    have E2 := E1.trans hE
    have c1 := hE.cell c1
    have c2 := hE.cell c2
    have C3 := Lib.hid (c3.ext hE)
    clear c3
    go_wp2
    go_loopw [20] (fun i wr => ∃ k : Nat, k ≤ l.length ∧ i = .int .i64 k ∧ Hid (anyHigh n (l.drop k) = anyHigh n l) ∧ Ext w1 wr) (fun i _ => l.length - (intOf i).toNat)
    case atStart => exact ⟨0, Nat.zero_le _, rfl, by show _ = _; rfl, Ext.refl _⟩
    case round =>
      obtain ⟨k, hk, rfl, hz, he⟩ := hrel
      have d1 := he.cell c1
      have d2 := he.cell c2
      have y1 := cell_lt d1
      dsimp only at y1
      by_cases hlt : k < l.length
      · obtain ⟨b, off, ha, e1, e2⟩ := HC.out.ext (E2.trans he) k hlt
        subst ha
        have HZ := Lib.hid (high_drop hlt hz.out)
        clear hz
        generalize l.getD k stk0 = y at e1 e2 HZ
        obtain ⟨ya, yo⟩ := y
        dsimp only at e1 e2 HZ
        have z1 := cell_lt e1
        dsimp only at z1
        by_cases hh : n ≤ ya
        · have hf2 : Hid (ckFit n (l, wait) e = 6) := by
            show _ = _
            have h := HZ.out
            rw [decide_eq_true hh, Bool.true_or] at h
            rw [hf.out, ← h]; rfl
          clear HZ
          go_wp2
          go_ret
          exact ⟨ret_int hf2.out.symm, extA⟩
        · have HZ2 : Hid (anyHigh n (l.drop (k + 1)) = anyHigh n l) := by
            show _ = _
            have h := HZ.out
            rw [decide_eq_false hh, Bool.false_or] at h
            exact h
          clear HZ
          go_wp2
          refine ⟨⟨k + 1, by omega, by go_num, HZ2, extA⟩, by simp [intOf]; omega⟩
      · have hf2 : Hid (ckFit n (l, wait) e = if anySame e l then 14 else 0) := by
          show _ = _
          have h := hz.out
          rw [List.drop_eq_nil_of_le (by omega)] at h
          rw [hf.out, ← h]; rfl
        clear hz hf
        have C4 := Lib.hid (C3.out.ext he)
        clear C3
        go_wp2
        generalize wr = W3 at *
        go_loopw [33] (fun i w4 => ∃ k : Nat, k ≤ l.length ∧ i = .int .i64 k ∧ Hid (anySame e (l.drop k) = anySame e l) ∧ Ext W3 w4) (fun i _ => l.length - (intOf i).toNat)
        case atStart => exact ⟨0, Nat.zero_le _, rfl, by show _ = _; rfl, Ext.refl _⟩
        case round =>
          obtain ⟨k2, hk2, rfl, hz, he2⟩ := hrel
          by_cases hlt2 : k2 < l.length
          · obtain ⟨b, off, ha, e1, e2⟩ := HC.out.ext ((E2.trans he).trans he2) k2 hlt2
            subst ha
            have HZ := Lib.hid (same_drop hlt2 hz.out)
            have hkn := HK.out k2 hlt2
            clear hz
            generalize l.getD k2 stk0 = y at e1 e2 HZ hkn
            obtain ⟨ya, yo⟩ := y
            dsimp only at e1 e2 HZ hkn
            obtain ⟨g0, g6⟩ := hkn
            have e3 := (C4.out.ext he2 ya.toNat (by omega)).1
            rw [Int.toNat_of_nonneg g0] at e3
            have z1 := cell_lt e1
            have z3 := cell_lt e3
            dsimp only at z1 z3
            cases hh : (e ya == yo)
            · have HZ2 : Hid (anySame e (l.drop (k2 + 1)) = anySame e l) := by
                show _ = _
                have h := HZ.out
                rw [hh, Bool.false_or] at h
                exact h
              clear HZ
              go_wp2
              go_quiet (fail)
              go_wp2
              refine ⟨⟨k2 + 1, by omega, by go_num, HZ2, extA⟩, by simp [intOf]; omega⟩
            · have hf3 : Hid (ckFit n (l, wait) e = 14) := by
                show _ = _
                have h := HZ.out
                rw [hh, Bool.true_or] at h
                rw [hf2.out, ← h]; rfl
              clear HZ
              go_wp2
              go_quiet (fail)
              go_wp2
              go_ret
              exact ⟨ret_int hf3.out.symm, extA⟩
          · have hf3 : Hid (ckFit n (l, wait) e = 0) := by
              show _ = _
              have h := hz.out
              rw [List.drop_eq_nil_of_le (by omega)] at h
              rw [hf2.out, ← h]; rfl
            clear hz hf2
            go_wp2
            go_ret
            exact ⟨ret_int hf3.out.symm, extA⟩
  · have hf : Hid (ckFit n (l, wait) e = ckStep (l, wait)) := by show _ = _; unfold ckFit; rw [if_pos h0]
    have hn : (ckStep (l, wait) != 0) = true := by simp [h0]
    clear h0
    generalize hz : ckStep (l, wait) = z at hf hn
    have HZ := Lib.hid hz
    clear hz
    go_enter Tryz.func168, Tryz.ntmps168
    go_wp2_with fail
    have E1 : Ext w (((w.alloc (.cells #[.int .i64 n, sv] 71)).alloc (.cells #[.slice a l.length cap, .int .i64 wait] 128)).alloc (.cells #[.bool (e 0), .bool (e 1), .bool (e 2), .bool (e 3), .bool (e 4), .bool (e 5)] 216)) := extA
    refine (CheckStep_any l wait a cap _ HL.out (HC.out.ext E1)).mono ?_
    rintro r w1 ⟨rfl, hE⟩
    rw [HZ.out]
    go_wp2
    go_ret
    exact ⟨ret_int hf.out.symm, extA⟩
end Go.Proofs.YtlnonmmaknhppaaGreatDoor
namespace Go.Proofs.YtlnonmmaknhppaaGreatDoor
open Go.RowKit
theorem foldl_drop {α β : Type} (f : β → α → β) (l : List α) (d : α) (b : β) {k : Nat} (h : k < l.length) : (l.take (k + 1)).foldl f b = f ((l.take k).foldl f b) (l.getD k d) := by
  rw [List.take_succ_eq_append_getElem h, List.foldl_append, List.getD_eq_getElem?_getD, List.getElem?_eq_getElem h]; rfl
theorem beh_take (e : Int → Bool) (l : List Stk) {k : Nat} (h : k < l.length) : beh e (l.take (k + 1)) = fun i => if i = (l.getD k stk0).1 then (l.getD k stk0).2 else beh e (l.take k) i := foldl_drop _ l stk0 e h
def Known (l : List Stk) : Prop := ∀ k, k < l.length → 0 ≤ (l.getD k stk0).1 ∧ (l.getD k stk0).1 < 6
set_option maxHeartbeats 2000000 in
theorem behind_any (l : List Stk) (wait : Int) (a : Option Addr) (cap : Nat) (e : Int → Bool) (w : World) (hl : l.length ≤ maxLen) (hc : CellsK w a l) (hk : Known l) :
    Calls Tryz.prog 169 #[endsV e, .agg #[.slice a l.length cap, .int .i64 wait]] w fun r w' => r = .returned (endsV (beh e l)) ∧ Ext w w' := by
  have HC := Lib.hid hc
  have HK := Lib.hid hk
  unfold maxLen at hl
  unfold endsV
  clear hc hk
  go_enter Tryz.func169, Tryz.ntmps169
  go_wp2
  have E1 : Ext w (((w.alloc (.cells #[.bool (e 0), .bool (e 1), .bool (e 2), .bool (e 3), .bool (e 4), .bool (e 5)] 216)).alloc (.cells #[.slice a l.length cap, .int .i64 wait] 128)).alloc (.cells #[.bool false, .bool false, .bool false, .bool false, .bool false, .bool false] 216)) := extA
  have c1 : EndsAt (((w.alloc (.cells #[.bool (e 0), .bool (e 1), .bool (e 2), .bool (e 3), .bool (e 4), .bool (e 5)] 216)).alloc (.cells #[.slice a l.length cap, .int .i64 wait] 128)).alloc (.cells #[.bool false, .bool false, .bool false, .bool false, .bool false, .bool false] 216)) w.heap.size e := ((ends_new rfl e).ext ((Ext.refl _).alloc _)).ext ((Ext.refl _).alloc _)
  have c2 : EndsAt (((w.alloc (.cells #[.bool (e 0), .bool (e 1), .bool (e 2), .bool (e 3), .bool (e 4), .bool (e 5)] 216)).alloc (.cells #[.slice a l.length cap, .int .i64 wait] 128)).alloc (.cells #[.bool false, .bool false, .bool false, .bool false, .bool false, .bool false] 216)) (w.heap.size + 1 + 1) (fun _ => false) := ends_new (by simp) (fun _ => false)
  have s1 : w.heap.size + 1 + 1 < (((w.alloc (.cells #[.bool (e 0), .bool (e 1), .bool (e 2), .bool (e 3), .bool (e 4), .bool (e 5)] 216)).alloc (.cells #[.slice a l.length cap, .int .i64 wait] 128)).alloc (.cells #[.bool false, .bool false, .bool false, .bool false, .bool false, .bool false] 216)).heap.size := by simp
  generalize (((w.alloc (.cells #[.bool (e 0), .bool (e 1), .bool (e 2), .bool (e 3), .bool (e 4), .bool (e 5)] 216)).alloc (.cells #[.slice a l.length cap, .int .i64 wait] 128)).alloc (.cells #[.bool false, .bool false, .bool false, .bool false, .bool false, .bool false] 216)) = W at E1 c1 c2 s1 ⊢
  have C1 := Lib.hid c1
  have C2 := Lib.hid c2
  clear c1 c2
  go_loopw [10] (fun i wr => ∃ k : Nat, k ≤ l.length ∧ i = .int .i64 k ∧ Ext w wr ∧ W.heap.size ≤ wr.heap.size ∧ Hid (EndsAt wr w.heap.size (beh e (l.take k))) ∧ Hid (EndsAt wr (w.heap.size + 1 + 1) (fun _ => false))) (fun i _ => l.length - (intOf i).toNat)
  case atStart => exact ⟨0, Nat.zero_le _, rfl, E1, Nat.le_refl _, C1, C2⟩
  case round =>
    obtain ⟨k, hk, rfl, he, hsz, D1, D2⟩ := hrel
    clear C1 C2
    by_cases hlt : k < l.length
    · obtain ⟨b, off, ha, e1, e2⟩ := HC.out.ext he k hlt
      subst ha
      have hkn := HK.out k hlt
      have hb := beh_take e l hlt
      have HB := Lib.hid hb
      clear hb
      generalize l.getD k stk0 = y at e1 e2 hkn HB
      obtain ⟨ya, yo⟩ := y
      dsimp only at e1 e2 hkn HB
      obtain ⟨g0, g6⟩ := hkn
      obtain ⟨e3, e4⟩ := D1.out ya.toNat (by omega)
      rw [Int.toNat_of_nonneg g0] at e3
      have z1 := cell_lt e1
      dsimp only at z1
      have z2 : w.heap.size < wr.heap.size := by omega
      have E5 : Ext w ((wr.setCell ⟨w.heap.size, ya.toNat, none⟩ (.bool yo)).alloc (.cells #[.int .i64 ya, .bool yo] 84)) := (Below.setCell (p := ⟨w.heap.size, ya.toNat, none⟩) he (Nat.le_refl _) (.bool yo)).alloc (by simp; omega) _
      have F1 : Hid (EndsAt ((wr.setCell ⟨w.heap.size, ya.toNat, none⟩ (.bool yo)).alloc (.cells #[.int .i64 ya, .bool yo] 84)) w.heap.size (beh e (l.take (k + 1)))) := by
        show EndsAt _ _ _
        rw [HB.out]
        exact (D1.out.set g0 g6 yo).ext ((Ext.refl _).alloc _)
      have F2 : Hid (EndsAt ((wr.setCell ⟨w.heap.size, ya.toNat, none⟩ (.bool yo)).alloc (.cells #[.int .i64 ya, .bool yo] 84)) (w.heap.size + 1 + 1) (fun _ => false)) :=
        (D2.out.other (by omega) _ _).ext ((Ext.refl _).alloc _)
      clear D1 D2
      go_wp2
      refine ⟨⟨k + 1, by omega, by go_num, E5, by simp; omega, F1, F2⟩, by simp [intOf]; omega⟩
    · have ht : l.take k = l := List.take_of_length_le (by omega)
      rw [ht] at D1
      clear ht
      obtain ⟨f, hf⟩ : ∃ f, f = beh e l := ⟨_, rfl⟩
      rw [← hf] at D1
      have HF := Lib.hid hf
      clear hf
      have h0 := D1.out 0 (by omega)
      have h1 := D1.out 1 (by omega)
      have h2 := D1.out 2 (by omega)
      have h3 := D1.out 3 (by omega)
      have h4 := D1.out 4 (by omega)
      have h5 := D1.out 5 (by omega)
      have i0 := D2.out 0 (by omega)
      have i1 := D2.out 1 (by omega)
      have i2 := D2.out 2 (by omega)
      have i3 := D2.out 3 (by omega)
      have i4 := D2.out 4 (by omega)
      have i5 := D2.out 5 (by omega)
      simp only [Int.cast_ofNat_Int] at h0 h1 h2 h3 h4 h5
      obtain ⟨h0, _⟩ := h0
      obtain ⟨h1, _⟩ := h1
      obtain ⟨h2, _⟩ := h2
      obtain ⟨h3, _⟩ := h3
      obtain ⟨h4, _⟩ := h4
      obtain ⟨h5, _⟩ := h5
      obtain ⟨i0, j0⟩ := i0
      obtain ⟨i1, j1⟩ := i1
      obtain ⟨i2, j2⟩ := i2
      obtain ⟨i3, j3⟩ := i3
      obtain ⟨i4, j4⟩ := i4
      obtain ⟨i5, j5⟩ := i5
      clear D1 D2
      go_wp2
      refine bodyPost_ret (v := .agg #[.bool (f 0), .bool (f 1), .bool (f 2), .bool (f 3), .bool (f 4), .bool (f 5)]) (by rw [results_cell1 rfl]; go_simp) rfl ⟨by rw [← HF.out], extA⟩
end Go.Proofs.YtlnonmmaknhppaaGreatDoor
namespace Go.Proofs.YtlnonmmaknhppaaGreatDoor
open Go.RowKit
theorem neqEnds (b0 b1 b2 b3 b4 b5 : Bool) (w : World) : (binOp .neq 216 (.agg #[.bool b0, .bool b1, .bool b2, .bool b3, .bool b4, .bool b5]) (.agg #[.bool false, .bool false, .bool false, .bool false, .bool false, .bool false])).run Tryz.prog w = .ok (.bool (b0 || (b1 || (b2 || (b3 || (b4 || b5)))))) w := by
  cases b0 <;> cases b1 <;> cases b2 <;> cases b3 <;> cases b4 <;> cases b5 <;> kernel_rfl
def any6 (f : Int → Bool) : Bool := f 0 || (f 1 || (f 2 || (f 3 || (f 4 || f 5))))
def CellsB (w : World) (a : Option Addr) (n : Nat) (f : Int → Bool) : Prop := ∀ i : Nat, i < n → ∃ b off, a = some ⟨b, off, none⟩ ∧ w.cell? ⟨b, off + i, none⟩ = some (.bool (f i))
theorem CellsB.ext {w w' : World} {a : Option Addr} {n : Nat} {f : Int → Bool} (h : CellsB w a n f) (he : Ext w w') : CellsB w' a n f := fun i hi => by
  obtain ⟨b, off, h1, h2⟩ := h i hi
  exact ⟨b, off, h1, he.cell h2⟩
def hasB (n : Nat) (f : Int → Bool) (x : Bool) : Bool := (List.range n).any fun i => f i == x
theorem hasB_of {n : Nat} {f : Int → Bool} {x : Bool} {k : Nat} (hk : k < n) (h : f k = x) : hasB n f x = true := List.any_eq_true.2 ⟨k, List.mem_range.2 hk, by simp [h]⟩
theorem hasB_none {n : Nat} {f : Int → Bool} {x : Bool} (h : ∀ j : Nat, j < n → f j ≠ x) : hasB n f x = false := List.any_eq_false.2 fun i hi => by simpa using h i (List.mem_range.1 hi)
set_option maxHeartbeats 1000000 in
theorem IndexB_any (n : Nat) (f : Int → Bool) (x : Bool) (a : Option Addr) (cap : Nat) (w : World) (hl : n ≤ maxLen) (hc : CellsB w a n f) :
    Calls Tryz.prog 209 #[.slice a n cap, .bool x] w fun e w' => (∃ r : Int, e = .returned (.int .i64 r) ∧ decide (0 ≤ r) = hasB n f x) ∧ w = w' := by
  unfold maxLen at hl
  have HC := Lib.hid hc
  clear hc
  go_enter Tryz.func209, Tryz.ntmps209
  go_wp2
  go_loop [8] (fun i => ∃ k : Nat, k ≤ n ∧ i = .int .i64 k ∧ Hid (∀ j : Nat, j < k → f j ≠ x)) (fun i => n - (intOf i).toNat)
  case atStart => exact ⟨0, Nat.zero_le _, rfl, fun j hj => by omega⟩
  case round =>
    obtain ⟨k, hk, rfl, hnn⟩ := hrel
    by_cases hlt : k < n
    · obtain ⟨b, off, rfl, c1⟩ := HC.out k hlt
      by_cases hx : f k = x
      · have HB := Lib.hid (hasB_of hlt hx)
        subst hx
        go_wp2
        go_ret
        exact ⟨⟨(k : Int), rfl, by rw [HB.out]; simp⟩, rfl⟩
      · have HX := Lib.hid hx
        have hx' : (x == f k) = false := by cases hxx : x <;> cases hff : f k <;> simp_all
        clear hx
        go_wp2
        refine ⟨⟨k + 1, by omega, by go_num, fun j hj => ?_⟩, by simp [intOf]; omega⟩
        rcases Nat.lt_or_eq_of_le (Nat.le_of_lt_succ hj) with h | rfl
        · exact hnn.out j h
        · exact HX.out
    · have HB := Lib.hid (hasB_none (x := x) (f := f) (n := n) (fun j hj => hnn.out j (by omega)))
      go_wp2
      go_ret
      exact ⟨⟨-1, rfl, by rw [HB.out]; simp⟩, rfl⟩
theorem ContainsB_any (n : Nat) (f : Int → Bool) (x : Bool) (a : Option Addr) (cap : Nat) (w : World) (hl : n ≤ maxLen) (hc : CellsB w a n f) :
    Calls Tryz.prog 170 #[.slice a n cap, .bool x] w fun e w' => e = .returned (.bool (hasB n f x)) ∧ w = w' := by
  have HC := Lib.hid hc
  have HL := Lib.hid hl
  clear hc hl
  go_enter Tryz.func170, Tryz.ntmps170
  go_wp2_with fail
  refine (IndexB_any n f x a cap _ HL.out HC.out).mono ?_
  rintro e w1 ⟨⟨r, rfl, hr⟩, rfl⟩
  have HR := Lib.hid hr
  clear hr
  go_wp2
  all_goals go_ret
  all_goals exact ⟨ret_bool HR.out, rfl⟩
theorem EndsAt.store6 {w : World} {p : Nat} {e : Int → Bool} (h : EndsAt w p e) (f : Int → Bool) :
    EndsAt ((((((w.setCell ⟨p, 0, none⟩ (.bool (f 0))).setCell ⟨p, 1, none⟩ (.bool (f 1))).setCell ⟨p, 2, none⟩ (.bool (f 2))).setCell ⟨p, 3, none⟩ (.bool (f 3))).setCell ⟨p, 4, none⟩ (.bool (f 4))).setCell ⟨p, 5, none⟩ (.bool (f 5))) p f := by
  have h' := (((((h.set (a := 0) (by omega) (by omega) (f 0)).set (a := 1) (by omega) (by omega) (f 1)).set (a := 2) (by omega) (by omega) (f 2)).set (a := 3) (by omega) (by omega) (f 3)).set (a := 4) (by omega) (by omega) (f 4)).set (a := 5) (by omega) (by omega) (f 5)
  intro k hk
  refine ⟨(h' k hk).1.trans ?_, (h' k hk).2⟩
  have : k = 0 ∨ k = 1 ∨ k = 2 ∨ k = 3 ∨ k = 4 ∨ k = 5 := by omega
  rcases this with rfl | rfl | rfl | rfl | rfl | rfl <;> rfl
theorem EndsAt.six {w : World} {p : Nat} {e : Int → Bool} (h : EndsAt w p e) : ((w.cell? ⟨p, 0, none⟩ = some (.bool (e 0)) ∧ w.cell? ⟨p, 1, none⟩ = some (.bool (e 1)) ∧ w.cell? ⟨p, 2, none⟩ = some (.bool (e 2)) ∧ w.cell? ⟨p, 3, none⟩ = some (.bool (e 3)) ∧ w.cell? ⟨p, 4, none⟩ = some (.bool (e 4)) ∧ w.cell? ⟨p, 5, none⟩ = some (.bool (e 5)))) ∧
    (w.frozen? ⟨p, 0, none⟩ = false ∧ w.frozen? ⟨p, 1, none⟩ = false ∧ w.frozen? ⟨p, 2, none⟩ = false ∧ w.frozen? ⟨p, 3, none⟩ = false ∧ w.frozen? ⟨p, 4, none⟩ = false ∧ w.frozen? ⟨p, 5, none⟩ = false) :=
  ⟨⟨(h 0 (by omega)).1, (h 1 (by omega)).1, (h 2 (by omega)).1, (h 3 (by omega)).1, (h 4 (by omega)).1, (h 5 (by omega)).1⟩, (h 0 (by omega)).2, (h 1 (by omega)).2, (h 2 (by omega)).2, (h 3 (by omega)).2, (h 4 (by omega)).2, (h 5 (by omega)).2⟩
theorem ckFit_ok {n : Int} {x : Stp} {e : Int → Bool} (h : ckFit n x e = 0) : ckStep x = 0 ∧ anyHigh n x.1 = false ∧ anySame e x.1 = false := by
  unfold ckFit at h
  by_cases h1 : ckStep x = 0
  · rw [if_neg (by simp [h1])] at h
    cases h2 : anyHigh n x.1
    · cases h3 : anySame e x.1
      · exact ⟨h1, rfl, rfl⟩
      · rw [h2, h3] at h; cases h
    · rw [h2] at h; cases h
  · rw [if_pos h1] at h; exact absurd h h1
theorem ckWalk_cons {n : Int} {e : Int → Bool} {x : Stp} {l : List Stp} {r : Int} (h : ckWalk n e (x :: l) = r) : (ckFit n x e ≠ 0 → r = ckFit n x e) ∧ (ckFit n x e = 0 → ckWalk n (beh e x.1) l = r) := by
  unfold ckWalk at h
  refine ⟨fun k => ?_, fun k => ?_⟩
  · rw [if_pos k] at h; exact h.symm
  · rw [if_neg (by simp [k])] at h; exact h
theorem behAll_take (e : Int → Bool) (l : List Stp) {k : Nat} (h : k < l.length) : behAll e (l.take (k + 1)) = beh (behAll e (l.take k)) (l.getD k stp0).1 := foldl_drop _ l stp0 e h
theorem movedIn_take (a : Int) (l : List Stp) {k : Nat} (h : k < l.length) : movedIn a (l.take (k + 1)) = (movedIn a (l.take k) || movesIn a (l.getD k stp0)) := by
  unfold movedIn
  rw [List.take_succ_eq_append_getElem h, List.any_append, List.getD_eq_getElem?_getD, List.getElem?_eq_getElem h]; simp
def movesL (a : Int) (l : List Stk) : Bool := l.any fun y => y.1 == a
theorem movesL_take (a : Int) (l : List Stk) {k : Nat} (h : k < l.length) : movesL a (l.take (k + 1)) = (movesL a (l.take k) || ((l.getD k stk0).1 == a)) := by
  unfold movesL
  rw [List.take_succ_eq_append_getElem h, List.any_append, List.getD_eq_getElem?_getD, List.getElem?_eq_getElem h]; simp
theorem beh_high {n : Int} {l : List Stk} {e : Int → Bool} (h : anyHigh n l = false) {i : Int} (hi : n ≤ i) : beh e l i = e i := by
  induction l generalizing e with
  | nil => rfl
  | cons y l ih =>
    unfold anyHigh at h
    rw [List.any_cons, Bool.or_eq_false_iff] at h
    have h1 := h.1
    simp only [decide_eq_false_iff_not] at h1
    show beh (fun i => if i = y.1 then y.2 else e i) l i = _
    rw [ih h.2]
    show (if i = y.1 then y.2 else e i) = _
    rw [if_neg (by omega)]
theorem behAll_high {n : Int} {l : List Stp} {e : Int → Bool} (h : ckWalk n e l = 0) {i : Int} (hi : n ≤ i) : behAll e l i = e i := by
  induction l generalizing e with
  | nil => rfl
  | cons x l ih =>
    have hc := ckWalk_cons h
    by_cases hf : ckFit n x e = 0
    · show behAll (beh e x.1) l i = _
      rw [ih (hc.2 hf), beh_high (ckFit_ok hf).2.1 hi]
    · exact absurd (hc.1 hf).symm hf
theorem any6_ints {n : Int} {l : List Stp} (h1 : 1 ≤ n) (h6 : n ≤ 6) (h : ckWalk n none6 l = 0) : any6 (behAll none6 l) = (ints n).any (behAll none6 l) := by
  have hh : ∀ i : Int, n ≤ i → behAll none6 l i = false := fun i hi => behAll_high h hi
  generalize behAll none6 l = f at hh
  have : n = 1 ∨ n = 2 ∨ n = 3 ∨ n = 4 ∨ n = 5 ∨ n = 6 := by omega
  unfold any6
  rcases this with rfl | rfl | rfl | rfl | rfl | rfl
  · rw [hh 1 (by omega), hh 2 (by omega), hh 3 (by omega), hh 4 (by omega), hh 5 (by omega)]; rfl
  · rw [hh 2 (by omega), hh 3 (by omega), hh 4 (by omega), hh 5 (by omega)]; rfl
  · rw [hh 3 (by omega), hh 4 (by omega), hh 5 (by omega)]; rfl
  · rw [hh 4 (by omega), hh 5 (by omega)]; rfl
  · rw [hh 5 (by omega)]; rfl
  · simp [ints, List.range, List.range.loop, Bool.or_false]
theorem hasB_ints (n : Int) (f : Int → Bool) : hasB n.toNat f false = (ints n).any (fun a => !f a) := by
  unfold hasB ints
  rw [List.any_map]
  congr 1
  funext i
  show (f i == false) = !f (Int.ofNat i)
  cases f (Int.ofNat i) <;> rfl
end Go.Proofs.YtlnonmmaknhppaaGreatDoor
namespace Go.Proofs.YtlnonmmaknhppaaGreatDoor
open Go.RowKit
structure CkSt (h : Nat) (W wr : World) (e m : Int → Bool) : Prop where
  be : Below (h + 1) W wr
  x : EndsAt wr (h + 1) e
  m : EndsAt wr (h + 1 + 1) m
theorem CkSt.ext {h : Nat} {W A B : World} {e m : Int → Bool} (k : CkSt h W A e m) (x : Ext A B) : CkSt h W B e m :=
  ⟨k.be.trans (x.mono (Nat.le_trans (by have := cell_lt (k.x 0 (by omega)).1; exact Nat.le_of_lt this) (Nat.le_refl _))), k.x.ext x, k.m.ext x⟩
theorem CkSt.setX {h : Nat} {W A : World} {e m : Int → Bool} (k : CkSt h W A e m) (f : Int → Bool) :
    CkSt h W ((((((A.setCell ⟨h + 1, 0, none⟩ (.bool (f 0))).setCell ⟨h + 1, 1, none⟩ (.bool (f 1))).setCell ⟨h + 1, 2, none⟩ (.bool (f 2))).setCell ⟨h + 1, 3, none⟩ (.bool (f 3))).setCell ⟨h + 1, 4, none⟩ (.bool (f 4))).setCell ⟨h + 1, 5, none⟩ (.bool (f 5))) f m :=
  ⟨((((((k.be.setCell (p := ⟨h + 1, 0, none⟩) (Nat.le_refl _) _).setCell (p := ⟨h + 1, 1, none⟩) (Nat.le_refl _) _).setCell (p := ⟨h + 1, 2, none⟩) (Nat.le_refl _) _).setCell (p := ⟨h + 1, 3, none⟩) (Nat.le_refl _) _).setCell (p := ⟨h + 1, 4, none⟩) (Nat.le_refl _) _).setCell (p := ⟨h + 1, 5, none⟩) (Nat.le_refl _) _),
   k.x.store6 f, (((((k.m.other (by omega) _ _).other (by omega) _ _).other (by omega) _ _).other (by omega) _ _).other (by omega) _ _).other (by omega) _ _⟩
theorem CkSt.setM {h : Nat} {W A : World} {e m : Int → Bool} (k : CkSt h W A e m) {a : Int} (h0 : 0 ≤ a) (h6 : a < 6) : CkSt h W (A.setCell ⟨h + 1 + 1, a.toNat, none⟩ (.bool true)) e (fun i => if i = a then true else m i) :=
  ⟨k.be.setCell (p := ⟨h + 1 + 1, a.toNat, none⟩) (by show h + 1 ≤ h + 1 + 1; omega) _, k.x.other (by omega) _ _, k.m.set h0 h6 true⟩
theorem CkSt.congr {h : Nat} {W A : World} {e m m' : Int → Bool} (k : CkSt h W A e m) (hm : ∀ i, m i = m' i) : CkSt h W A e m' := by rw [← (funext hm : m = m')]; exact k
def MovedAt (l : List Stp) (k : Nat) (st : List Stk) (j : Nat) : Int → Bool := fun a => movedIn a (l.take k) || movesL a (st.take j)
theorem MovedAt_zero (l : List Stp) (k : Nat) (st : List Stk) : MovedAt l k st 0 = fun a => movedIn a (l.take k) := by
  funext a; unfold MovedAt; simp [movesL]
theorem MovedAt_succ (l : List Stp) (k : Nat) (st : List Stk) {j : Nat} (h : j < st.length) (i : Int) : (if i = (st.getD j stk0).1 then true else MovedAt l k st j i) = MovedAt l k st (j + 1) i := by
  unfold MovedAt
  rw [movesL_take i st h]
  by_cases c : i = (st.getD j stk0).1
  · rw [if_pos c, c]; simp
  · have : ((st.getD j stk0).1 == i) = false := by simp; exact fun x => c x.symm
    rw [if_neg c, this]; simp
theorem MovedAt_end (l : List Stp) {k : Nat} (h : k < l.length) (i : Int) : MovedAt l k (l.getD k stp0).1 (l.getD k stp0).1.length i = movedIn i (l.take (k + 1)) := by
  unfold MovedAt
  rw [movedIn_take i l h, List.take_of_length_le (Nat.le_refl _)]
  rfl
theorem sliceEnds (p : Nat) (n : Int) (h0 : 0 ≤ n) (h6 : n ≤ 6) (w : World) : (Instr.sliceAt 216 (.pointer (some ⟨p, 0, none⟩)) none (some (.int .i64 n)) none).run Tryz.prog w = .ok (.slice (some ⟨p, 0, none⟩) n.toNat 6) w := by
  have hu : Tryz.prog.underlying 216 = some (.array (Tryz.prog.arrayLen 216) (Tryz.prog.elem 216)) := by kernel_rfl
  have hl : Tryz.prog.arrayLen 216 = 6 := by kernel_rfl
  have hs : ∀ w, (sizeOf (Tryz.prog.elem 216)).run Tryz.prog w = .ok 1 w := fun _ => by kernel_rfl
  rw [run_sliceAt_array_h w _ _ hu _ _ h0 (by rw [hl]; exact h6), hs, hl]
  simp [slicedAt, Result.andThen, Addr.add]
theorem EndsAt.cells {w : World} {p : Nat} {f : Int → Bool} (h : EndsAt w p f) {n : Nat} (hn : n ≤ 6) : CellsB w (some ⟨p, 0, none⟩) n f := fun i hi => ⟨p, 0, rfl, by rw [Nat.zero_add]; exact (h i (by omega)).1⟩
set_option maxHeartbeats 4000000 in
set_option maxRecDepth 100000 in
theorem Check_any (n : Int) (l : List Stp) (a : Option Addr) (cap : Nat) (w : World) (hl : l.length ≤ maxLen) (hc : CellsP w a l) :
    Calls Tryz.prog 128 #[.agg #[.int .i64 n, .slice a l.length cap]] w fun r w' => r = .returned (.int .i64 (ckSeq (n, l))) ∧ Ext w w' := by
  have HC := Lib.hid hc
  have HL := Lib.hid hl
  unfold maxLen at hl
  clear hc
  have E0 : Ext w (w.alloc (.cells #[.int .i64 n, .slice a l.length cap] 71)) := extA
  by_cases h1 : n < 1
  · have hf : Hid (ckSeq (n, l) = 2) := by show _ = _; unfold ckSeq; rw [if_pos (Or.inl h1)]
    go_enter Tryz.func128, Tryz.ntmps128
    go_wp2
    all_goals go_ret
    all_goals exact ⟨ret_int hf.out.symm, extA⟩
  by_cases h2 : 6 < n
  · have hf : Hid (ckSeq (n, l) = 2) := by show _ = _; unfold ckSeq; rw [if_pos (Or.inr h2)]
    go_enter Tryz.func128, Tryz.ntmps128
    go_wp2
    all_goals go_ret
    all_goals exact ⟨ret_int hf.out.symm, extA⟩
  by_cases h0 : l.length = 0
  · have hf : Hid (ckSeq (n, l) = 13) := by show _ = _; unfold ckSeq; rw [if_neg (by dsimp only; omega), if_pos h0]
    have h0' : ((l.length : Int) == 0) = true := by simp [h0]
    have h0b : (l.length == 0) = true := by simp [h0]
    go_enter Tryz.func128, Tryz.ntmps128
    go_wp2
    all_goals go_ret
    all_goals exact ⟨ret_int hf.out.symm, extA⟩
  have h0' : ((l.length : Int) == 0) = false := beq_eq_false_iff_ne.2 (by omega)
  have h0b : (l.length == 0) = false := beq_eq_false_iff_ne.2 h0
  by_cases h6 : 64 < l.length
  · have hf : Hid (ckSeq (n, l) = 5) := by show _ = _; unfold ckSeq; rw [if_neg (by dsimp only; omega), if_neg h0, if_pos h6]
    go_enter Tryz.func128, Tryz.ntmps128
    go_wp2
    all_goals go_ret
    all_goals exact ⟨ret_int hf.out.symm, extA⟩
  have hf : Hid (ckSeq (n, l) = if ckWalk n none6 l ≠ 0 then ckWalk n none6 l else if (ints n).any (behAll none6 l) then 9 else if (ints n).any (fun a => !movedIn a l) then 13 else 0) := by
    show _ = _; unfold ckSeq; rw [if_neg (by dsimp only; omega), if_neg h0, if_neg h6]
  clear h0
  go_enter Tryz.func128, Tryz.ntmps128
  go_wp2
  have E1 : Ext w (((w.alloc (.cells #[.int .i64 n, .slice a l.length cap] 71)).alloc (.cells #[.bool false, .bool false, .bool false, .bool false, .bool false, .bool false] 216)).alloc (.cells #[.bool false, .bool false, .bool false, .bool false, .bool false, .bool false] 216)) := extA
  have c1 : (((w.alloc (.cells #[.int .i64 n, .slice a l.length cap] 71)).alloc (.cells #[.bool false, .bool false, .bool false, .bool false, .bool false, .bool false] 216)).alloc (.cells #[.bool false, .bool false, .bool false, .bool false, .bool false, .bool false] 216)).cell? ⟨w.heap.size, 0, none⟩ = some (.int .i64 n) := by go_simp
  have c2 : (((w.alloc (.cells #[.int .i64 n, .slice a l.length cap] 71)).alloc (.cells #[.bool false, .bool false, .bool false, .bool false, .bool false, .bool false] 216)).alloc (.cells #[.bool false, .bool false, .bool false, .bool false, .bool false, .bool false] 216)).cell? ⟨w.heap.size, 1, none⟩ = some (.slice a l.length cap) := by go_simp
  have c3 : CkSt w.heap.size (((w.alloc (.cells #[.int .i64 n, .slice a l.length cap] 71)).alloc (.cells #[.bool false, .bool false, .bool false, .bool false, .bool false, .bool false] 216)).alloc (.cells #[.bool false, .bool false, .bool false, .bool false, .bool false, .bool false] 216)) (((w.alloc (.cells #[.int .i64 n, .slice a l.length cap] 71)).alloc (.cells #[.bool false, .bool false, .bool false, .bool false, .bool false, .bool false] 216)).alloc (.cells #[.bool false, .bool false, .bool false, .bool false, .bool false, .bool false] 216)) none6 none6 :=
    ⟨Below.refl _ _, (ends_new (by simp) none6).ext ((Ext.refl _).alloc _), ends_new (by simp) none6⟩
  generalize (((w.alloc (.cells #[.int .i64 n, .slice a l.length cap] 71)).alloc (.cells #[.bool false, .bool false, .bool false, .bool false, .bool false, .bool false] 216)).alloc (.cells #[.bool false, .bool false, .bool false, .bool false, .bool false, .bool false] 216)) = W at E1 c1 c2 c3 ⊢
  have C3 := Lib.hid c3
  clear c3
  have HW : Hid (w.heap.size + 1 ≤ W.heap.size) := by have := cell_lt (C3.out.x 0 (by omega)).1; dsimp only at this; show _ ≤ _; omega
  go_loopw [32] (fun i wr => ∃ k : Nat, k ≤ l.length ∧ i = .int .i64 k ∧ Hid (CkSt w.heap.size W wr (behAll none6 (l.take k)) (fun a => movedIn a (l.take k))) ∧ Hid (ckWalk n (behAll none6 (l.take k)) (l.drop k) = ckWalk n none6 l)) (fun i _ => l.length - (intOf i).toNat)
  case atStart => exact ⟨0, Nat.zero_le _, rfl, C3, by show _ = _; rfl⟩
  case round =>
    obtain ⟨k, hk, rfl, D, hz⟩ := hrel
    clear C3
    have E2 : Ext w wr := E1.trans' D.out.be (by omega)
    have d1 := cellB D.out.be (p := ⟨w.heap.size, 0, none⟩) (by show w.heap.size < _; omega) c1
    have d2 := cellB D.out.be (p := ⟨w.heap.size, 1, none⟩) (by show w.heap.size < _; omega) c2
    have ym := cell_lt (D.out.m 0 (by omega)).1
    dsimp only at ym
    have y1 : w.heap.size < wr.heap.size := by omega
    have y2 : w.heap.size + 1 < wr.heap.size := by omega
    by_cases hlt : k < l.length
    · obtain ⟨b, off, v, ha, e1, hv, e2⟩ := HC.out k hlt
      subst ha
      obtain ⟨sa, sc, rfl, hcs, hls⟩ := hv
      have e1 := E2.cell e1
      have e2 := E2.cell e2
      have hz1 := hz.out
      rw [drop_cons l stp0 hlt] at hz1
      have HZ := Lib.hid (ckWalk_cons hz1)
      have HB := Lib.hid (behAll_take none6 l hlt)
      have HM := Lib.hid (MovedAt_end l hlt)
      have HM2 := Lib.hid (fun st : List Stk => MovedAt_zero l k st)
      have HM3 := Lib.hid (fun (st : List Stk) (j : Nat) (h : j < st.length) (i : Int) => MovedAt_succ l k st h i)
      clear hz1 hz
      generalize l.getD k stp0 = x at e1 e2 hcs hls HZ HB HM
      obtain ⟨st, wait⟩ := x
      dsimp only at e1 e2 hcs hls HZ HB HM
      generalize hg : MovedAt l k st = mm at HM
      have HG := Lib.hid hg
      clear hg
      generalize hee : behAll none6 (l.take k) = ee at D HZ HB
      have HEE := Lib.hid hee
      clear hee
      have HCS := Lib.hid hcs
      have HLS := Lib.hid hls
      clear hcs hls
      have z1 := cell_lt e1
      dsimp only at z1
      have hx6 := D.out.x.six
      obtain ⟨⟨x0, x1, x2, x3, x4, x5⟩, _⟩ := hx6
      by_cases hfit : ckFit n (st, wait) ee = 0
      · have HF := Lib.hid hfit
        have HO := Lib.hid (ckFit_ok hfit)
        have HZ2 := Lib.hid (HZ.out.2 hfit)
        clear hfit HZ
        go_wp2_with fail
        have F1 : Ext w (wr.alloc (.cells #[.slice sa st.length sc, .int .i64 wait] 128)) := extA
        have D1 : Hid (CkSt w.heap.size W (wr.alloc (.cells #[.slice sa st.length sc, .int .i64 wait] 128)) ee (fun a => movedIn a (l.take k))) := D.out.ext ((Ext.refl _).alloc _)
        have f1 : (wr.alloc (.cells #[.slice sa st.length sc, .int .i64 wait] 128)).cell? ⟨wr.heap.size, 0, none⟩ = some (.slice sa st.length sc) := by go_simp
        have f2 : (wr.alloc (.cells #[.slice sa st.length sc, .int .i64 wait] 128)).cell? ⟨wr.heap.size, 1, none⟩ = some (.int .i64 wait) := by go_simp
        have HW1 : Hid (w.heap.size + 1 + 1 < wr.heap.size) := ym
        generalize wr.alloc (.cells #[.slice sa st.length sc, .int .i64 wait] 128) = W1 at F1 D1 f1 f2 ⊢
        clear x0 x1 x2 x3 x4 x5 d1 d2
        refine (fits_any n _ st wait sa sc ee _ HLS.out (HCS.out.ext F1)).mono ?_
        rintro r w2 ⟨rfl, hE2⟩
        rw [HF.out]
        have F2 := F1.trans hE2
        have D2 : Hid (CkSt w.heap.size W w2 ee (fun a => movedIn a (l.take k))) := D1.out.ext hE2
        have f1 := hE2.cell f1
        have f2 := hE2.cell f2
        obtain ⟨⟨x0, x1, x2, x3, x4, x5⟩, g0, g1, g2, g3, g4, g5⟩ := D2.out.x.six
        go_wp2_with fail
        refine (behind_any st wait sa sc ee _ HLS.out (HCS.out.ext F2) (ckStep_known HO.out.1)).mono ?_
        rintro r w3 ⟨rfl, hE3⟩
        have F3 := F2.trans hE3
        have D3 : Hid (CkSt w.heap.size W w3 ee (fun a => movedIn a (l.take k))) := D2.out.ext hE3
        have f1 := hE3.cell f1
        have f2 := hE3.cell f2
        have hq6 : st.length ≤ 6 := (ckStep_strokes HO.out.1).2.1
        have HKN : Hid (Known st) := ckStep_known HO.out.1
        clear x0 x1 x2 x3 x4 x5 g0 g1 g2 g3 g4 g5
        obtain ⟨⟨x0, x1, x2, x3, x4, x5⟩, g0, g1, g2, g3, g4, g5⟩ := D3.out.x.six
        generalize beh ee st = ff at HB HZ2 ⊢
        unfold endsV
        have hsz : wr.heap.size < w3.heap.size := cell_lt f1
        go_wp2
        have F4 : Ext w ((((((w3.setCell ⟨w.heap.size + 1, 0, none⟩ (.bool (ff 0))).setCell ⟨w.heap.size + 1, 1, none⟩ (.bool (ff 1))).setCell ⟨w.heap.size + 1, 2, none⟩ (.bool (ff 2))).setCell ⟨w.heap.size + 1, 3, none⟩ (.bool (ff 3))).setCell ⟨w.heap.size + 1, 4, none⟩ (.bool (ff 4))).setCell ⟨w.heap.size + 1, 5, none⟩ (.bool (ff 5))) := extA
        have D4 : Hid (CkSt w.heap.size W ((((((w3.setCell ⟨w.heap.size + 1, 0, none⟩ (.bool (ff 0))).setCell ⟨w.heap.size + 1, 1, none⟩ (.bool (ff 1))).setCell ⟨w.heap.size + 1, 2, none⟩ (.bool (ff 2))).setCell ⟨w.heap.size + 1, 3, none⟩ (.bool (ff 3))).setCell ⟨w.heap.size + 1, 4, none⟩ (.bool (ff 4))).setCell ⟨w.heap.size + 1, 5, none⟩ (.bool (ff 5))) ff (fun a => movedIn a (l.take k))) := D3.out.setX ff
        have B4 : Below (w.heap.size + 1) w3 ((((((w3.setCell ⟨w.heap.size + 1, 0, none⟩ (.bool (ff 0))).setCell ⟨w.heap.size + 1, 1, none⟩ (.bool (ff 1))).setCell ⟨w.heap.size + 1, 2, none⟩ (.bool (ff 2))).setCell ⟨w.heap.size + 1, 3, none⟩ (.bool (ff 3))).setCell ⟨w.heap.size + 1, 4, none⟩ (.bool (ff 4))).setCell ⟨w.heap.size + 1, 5, none⟩ (.bool (ff 5))) :=
          ((((((Below.refl _ _).setCell (p := ⟨w.heap.size + 1, 0, none⟩) (Nat.le_refl _) _).setCell (p := ⟨w.heap.size + 1, 1, none⟩) (Nat.le_refl _) _).setCell (p := ⟨w.heap.size + 1, 2, none⟩) (Nat.le_refl _) _).setCell (p := ⟨w.heap.size + 1, 3, none⟩) (Nat.le_refl _) _).setCell (p := ⟨w.heap.size + 1, 4, none⟩) (Nat.le_refl _) _).setCell (p := ⟨w.heap.size + 1, 5, none⟩) (Nat.le_refl _) _
        have hs4 : ((((((w3.setCell ⟨w.heap.size + 1, 0, none⟩ (.bool (ff 0))).setCell ⟨w.heap.size + 1, 1, none⟩ (.bool (ff 1))).setCell ⟨w.heap.size + 1, 2, none⟩ (.bool (ff 2))).setCell ⟨w.heap.size + 1, 3, none⟩ (.bool (ff 3))).setCell ⟨w.heap.size + 1, 4, none⟩ (.bool (ff 4))).setCell ⟨w.heap.size + 1, 5, none⟩ (.bool (ff 5))).heap.size = w3.heap.size := by simp
        generalize (((((w3.setCell ⟨w.heap.size + 1, 0, none⟩ (.bool (ff 0))).setCell ⟨w.heap.size + 1, 1, none⟩ (.bool (ff 1))).setCell ⟨w.heap.size + 1, 2, none⟩ (.bool (ff 2))).setCell ⟨w.heap.size + 1, 3, none⟩ (.bool (ff 3))).setCell ⟨w.heap.size + 1, 4, none⟩ (.bool (ff 4))).setCell ⟨w.heap.size + 1, 5, none⟩ (.bool (ff 5)) = w4 at F4 D4 B4 hs4 ⊢
        clear x0 x1 x2 x3 x4 x5 g0 g1 g2 g3 g4 g5 hs4
        have DM : Hid (CkSt w.heap.size W w4 ff (mm 0)) := by
          show CkSt _ _ _ _ _
          rw [← HG.out]
          exact D4.out.congr (fun i => by rw [HM2.out])
        obtain ⟨wo, rfl⟩ : ∃ wo : World, wo = wr := ⟨_, rfl⟩
        go_loopw [49] (fun j w5 => ∃ q : Nat, q ≤ st.length ∧ j = .int .i64 q ∧ Ext w w5 ∧ Hid (CkSt w.heap.size W w5 ff (mm q))) (fun j _ => st.length - (intOf j).toNat)
        case atStart => exact ⟨0, Nat.zero_le _, rfl, F4, DM⟩
        case round =>
          obtain ⟨q, hq, rfl, G5, DQ⟩ := hrel
          clear DM
          by_cases hltq : q < st.length
          · obtain ⟨b', off', ha', p1, p2⟩ := HCS.out.ext G5 q hltq
            subst ha'
            have hkn := HKN.out q hltq
            have HS := Lib.hid (HM3.out st q hltq)
            generalize st.getD q stk0 = y at p1 p2 hkn HS
            obtain ⟨ya, yo⟩ := y
            dsimp only at p1 p2 hkn HS
            obtain ⟨g0, g6⟩ := hkn
            obtain ⟨m1, m2⟩ := DQ.out.m ya.toNat (by omega)
            rw [Int.toNat_of_nonneg g0] at m1
            have zq := cell_lt p1
            have zm := cell_lt m1
            dsimp only at zq zm
            have DN : Hid (CkSt w.heap.size W ((wr.setCell ⟨w.heap.size + 1 + 1, ya.toNat, none⟩ (.bool true)).alloc (.cells #[.int .i64 ya, .bool yo] 84)) ff (mm (q + 1))) := by
              show CkSt _ _ _ _ _
              refine ((DQ.out.setM g0 g6).congr fun i => ?_).ext ((Ext.refl _).alloc _)
              rw [← HG.out]
              exact HS.out i
            have EN : Ext w ((wr.setCell ⟨w.heap.size + 1 + 1, ya.toNat, none⟩ (.bool true)).alloc (.cells #[.int .i64 ya, .bool yo] 84)) := extA
            clear DQ HS
            go_wp2
            refine ⟨⟨q + 1, by omega, by go_num, EN, DN⟩, by simp [intOf]; omega⟩
          · have DE : Hid (CkSt w.heap.size W wr (behAll none6 (l.take (k + 1))) (fun a => movedIn a (l.take (k + 1)))) := by
              show CkSt _ _ _ _ _
              rw [HB.out]
              have hqe : q = st.length := by omega
              subst hqe
              exact DQ.out.congr HM.out
            have ZE : Hid (ckWalk n (behAll none6 (l.take (k + 1))) (l.drop (k + 1)) = ckWalk n none6 l) := by
              show _ = _
              rw [HB.out]; exact HZ2.out
            clear DQ
            go_wp2
            refine ⟨⟨k + 1, by omega, by go_num, DE, ZE⟩, by simp [intOf]; omega⟩
      · have hfit' : (ckFit n (st, wait) ee != 0) = true := by simp [hfit]
        have HF : Hid (ckSeq (n, l) = ckFit n (st, wait) ee) := by
          show _ = _
          have h := HZ.out.1 hfit
          rw [hf.out, h, if_pos hfit]
        clear hfit HZ
        generalize hcf : ckFit n (st, wait) ee = cf at HF hfit'
        have HCF := Lib.hid hcf
        clear hcf
        go_wp2_with fail
        have F1 : Ext w (wr.alloc (.cells #[.slice sa st.length sc, .int .i64 wait] 128)) := extA
        refine (fits_any n _ st wait sa sc ee _ HLS.out (HCS.out.ext F1)).mono ?_
        rintro r w2 ⟨rfl, hE2⟩
        rw [HCF.out]
        go_wp2
        go_ret
        exact ⟨ret_int HF.out.symm, extA⟩
    · have hlt' : l.take k = l := List.take_of_length_le (by omega)
      have hz1 := hz.out
      rw [List.drop_eq_nil_of_le (by omega)] at hz1
      have hz0 : ckWalk n none6 l = 0 := hz1.symm
      have HFF : Hid (ckSeq (n, l) = if any6 (behAll none6 l) then 9 else if hasB n.toNat (fun a => movedIn a l) false then 13 else 0) := by
        show _ = _
        rw [hf.out, hz0, any6_ints h1 h2 hz0, hasB_ints]
        rfl
      rw [hlt'] at D
      clear hz1 hz0 hz hlt' hf
      generalize behAll none6 l = ee at D HFF
      obtain ⟨⟨x0, x1, x2, x3, x4, x5⟩, g0, g1, g2, g3, g4, g5⟩ := D.out.x.six
      have hneq := fun w => neqEnds (ee 0) (ee 1) (ee 2) (ee 3) (ee 4) (ee 5) w
      have hzz : ∀ w, (zeroValue 216).run Tryz.prog w = .ok (.agg #[.bool false, .bool false, .bool false, .bool false, .bool false, .bool false]) w := fun _ => by kernel_rfl
      have DM := Lib.hid D.out.m
      clear D
      cases h9 : any6 ee
      · unfold any6 at h9
        rw [h9] at hneq
        have HF2 : Hid (ckSeq (n, l) = if hasB n.toNat (fun a => movedIn a l) false then 13 else 0) := by
          show _ = _
          rw [HFF.out, if_neg (by unfold any6; rw [h9]; simp)]
        clear h9 HFF
        have hn3 : n.toNat ≤ 6 := by omega
        have hsl := fun w' => sliceEnds (w.heap.size + 1 + 1) n (by omega) h2 w'
        have HCB := Lib.hid (DM.out.cells hn3)
        cases hh : hasB n.toNat (fun a => movedIn a l) false
        · rw [hh] at HF2
          have HH := Lib.hid hh
          clear hh
          go_wp2_with ((refine (ContainsB_any n.toNat (fun a => movedIn a l) false _ 6 _ (by unfold maxLen; omega) HCB.out).mono ?_); rintro e w1 ⟨rfl, rfl⟩; rw [HH.out])
          go_ret
          exact ⟨ret_int HF2.out.symm, extA⟩
        · rw [hh] at HF2
          have HH := Lib.hid hh
          clear hh
          go_wp2_with ((refine (ContainsB_any n.toNat (fun a => movedIn a l) false _ 6 _ (by unfold maxLen; omega) HCB.out).mono ?_); rintro e w1 ⟨rfl, rfl⟩; rw [HH.out])
          go_ret
          exact ⟨ret_int HF2.out.symm, extA⟩
      · have HF2 : Hid (ckSeq (n, l) = 9) := by
          show _ = _
          rw [HFF.out, if_pos h9]
        unfold any6 at h9
        rw [h9] at hneq
        clear h9
        go_wp2
        go_ret
        exact ⟨ret_int HF2.out.symm, extA⟩
end Go.Proofs.YtlnonmmaknhppaaGreatDoor
namespace Go.Proofs.YtlnonmmaknhppaaGreatDoor
open Go.RowKit
theorem infoBool : (Tryz.prog.info? 4).map (fun i => (i.zero, i.size, i.bytes)) = some (some (.bool false), 1, 1) := by kernel_rfl
def BoolsAt (w : World) (p n : Nat) (e : Int → Bool) : Prop := ∀ k : Nat, k < n → w.cell? ⟨p, k, none⟩ = some (.bool (e k)) ∧ w.frozen? ⟨p, k, none⟩ = false
theorem BoolsAt.ext {w w' : World} {p n : Nat} {e : Int → Bool} (h : BoolsAt w p n e) (he : Ext w w') : BoolsAt w' p n e := fun k hk =>
  ⟨he.cell (h k hk).1, (Below.frozen (p := ⟨p, k, none⟩) he (cell_lt (h k hk).1)).trans (h k hk).2⟩
theorem BoolsAt.set {w : World} {p n : Nat} {e : Int → Bool} (h : BoolsAt w p n e) {a : Int} (h0 : 0 ≤ a) (_h6 : a < n) (b : Bool) : BoolsAt (w.setCell ⟨p, a.toNat, none⟩ (.bool b)) p n (fun i => if i = a then b else e i) := fun k hk => by
  refine ⟨?_, by rw [World.frozen?_setCell]; exact (h k hk).2⟩
  by_cases c : k = a.toNat
  · subst c
    rw [World.cell?_setCell_same _ _ _ (h _ hk).1]; show _ = some (Value.bool (if _ then _ else _)); rw [if_pos (by omega)]
  · rw [World.cell?_setCell_other _ _ _ _ (fun x => by simp only [Addr.mk.injEq] at x; omega), (h k hk).1]; show _ = some (Value.bool (if _ then _ else _)); rw [if_neg (by omega)]
theorem BoolsAt.cells {w : World} {p n : Nat} {f : Int → Bool} (h : BoolsAt w p n f) : CellsB w (some ⟨p, 0, none⟩) n f := fun i hi => ⟨p, 0, rfl, by rw [Nat.zero_add]; exact (h i hi).1⟩
def boolsL (n : Nat) (f : Int → Bool) : List Value := (List.range n).map fun i : Nat => Value.bool (f (i : Int))
theorem boolsL_get {n : Nat} {f : Int → Bool} {i : Nat} {u : Value} (h : (boolsL n f)[i]? = some u) : i < n ∧ u = .bool (f i) := by
  unfold boolsL at h
  rw [List.getElem?_map] at h
  by_cases hi : i < n
  · rw [List.getElem?_range hi] at h; exact ⟨hi, by simpa using h.symm⟩
  · rw [List.getElem?_eq_none (by simpa using hi)] at h; cases h
theorem boolsL_at {n : Nat} {f : Int → Bool} {i : Nat} (h : i < n) : (boolsL n f)[i]? = some (.bool (f i)) := by
  unfold boolsL
  rw [List.getElem?_map, List.getElem?_range h]; rfl
def BoolsPost (n : Nat) (f : Int → Bool) (w : World) (r : Ending) (w' : World) : Prop := ∃ g c, r = .returned (.slice (some ⟨g, 0, none⟩) n c) ∧ BoolsAt w' g n f ∧ w.heap.size ≤ g ∧ Ext w w'
theorem rowBools {w : World} {v : Value} {n : Nat} {f : Int → Bool} (h0 : 0 < n) (h : w.ownsRow 0 4 1 v n (boolsL n f)) : ∃ g c, v = .slice (some ⟨g, 0, none⟩) n c ∧ v.ownBlock = some g ∧ BoolsAt w g n f := by
  obtain ⟨a, c, hv, _, hr⟩ := rowReads h
  obtain ⟨g, ha, hg, _, _⟩ := hr 0 _ (boolsL_at h0)
  subst ha
  refine ⟨g, c, hv, hg, fun i hi => ?_⟩
  obtain ⟨b, hb, _, h1, h2⟩ := hr i _ (boolsL_at hi)
  injection hb with hb
  injection hb with hb _ _
  subst hb
  exact ⟨h1, h2⟩
set_option maxHeartbeats 2000000 in
set_option maxRecDepth 100000 in
theorem AfterR_any (l : List Stk) (wait : Int) (a : Option Addr) (cap : Nat) (n : Nat) (f : Int → Bool) (eb eo ec : Nat) (w : World) (hl : l.length ≤ maxLen) (hc : CellsK w a l) (hn : n ≤ 6) (h0 : 0 < n) (he : CellsB w (some ⟨eb, eo, none⟩) n f) (hk : ∀ k, k < l.length → 0 ≤ (l.getD k stk0).1 ∧ (l.getD k stk0).1 < n) :
    Calls Tryz.prog 135 #[.agg #[.slice a l.length cap, .int .i64 wait], .slice (some ⟨eb, eo, none⟩) n ec] w (BoolsPost n (beh f l) w) := by
  have HC := Lib.hid hc
  have HE := Lib.hid he
  have HK := Lib.hid hk
  clear hc he hk
  unfold maxLen at hl
  obtain ⟨i0, hi, hi0, hi1, hi2⟩ := info_parts infoBool
  go_enter Tryz.func135, Tryz.ntmps135
  have E1 : Ext w ((w.alloc (.cells #[.slice a l.length cap, .int .i64 wait] 128)).alloc (.cells #[] 4)) := extA
  have e1 : ((w.alloc (.cells #[.slice a l.length cap, .int .i64 wait] 128)).alloc (.cells #[] 4)).cell? ⟨w.heap.size, 0, none⟩ = some (.slice a l.length cap) := by go_simp
  have hown : ((w.alloc (.cells #[.slice a l.length cap, .int .i64 wait] 128)).alloc (.cells #[] 4)).ownsRow 0 4 1 (.slice (some ⟨w.heap.size + 1, 0, none⟩) 0 0) 0 [] := by
    have := World.ownsRow_made (w := w.alloc (.cells #[.slice a l.length cap, .int .i64 wait] 128)) (base := 0) (e := 4) (size := 1) #[] 0 (Nat.zero_le _) (Nat.zero_le _) rfl
    simpa using this
  have ez : ((w.alloc (.cells #[.slice a l.length cap, .int .i64 wait] 128)).alloc (.cells #[] 4)).heap.size = w.heap.size + 2 := by simp
  go_wp2_with (at_builtin; refine wpList_append1 _ rfl _ _ 180 rfl 4 i0 (.bool false) 1 1 Tryz.underlying180 hi hi0 hi1 hi2 rfl (by decide) (.slice (some ⟨w.heap.size + 1, 0, none⟩) 0 0) 0 [] rfl hown ⟨eb, eo, none⟩ n ec h0 (boolsL n f) rfl ?c0 ?c1 ?c2 ?c3 ?c4 ?c5)
  case c0 => simp [boolsL]
  case c1 =>
    intro j u hu
    obtain ⟨hj, rfl⟩ := boolsL_get hu
    obtain ⟨b, off, hb, hcell⟩ := HE.out.ext E1 j hj
    cases hb
    rw [Addr.add_lit]; exact hcell
  case c2 => intro u hu; unfold boolsL at hu; simp at hu; obtain ⟨i, _, rfl⟩ := hu; rfl
  case c3 => unfold maxLen; omega
  case c4 => omega
  case c5 =>
    intro v' w5 hown5 hend5
    obtain ⟨g, c, rfl, hg, hb⟩ := rowBools h0 hown5
    have B5 : Below (w.heap.size + 1) _ w5 := hend5.below (n := w.heap.size + 1) (by rw [ez]; omega) (fun b hb => by cases hb; exact Nat.le_refl _)
    have G5 := Lib.hid (hend5.ge (n := w.heap.size + 1) (by rw [ez]; omega) (fun b hb => by cases hb; exact Nat.le_refl _) g hg)
    have F5 : Ext w w5 := E1.trans' B5 (by omega)
    have e1 := cellB B5 (p := ⟨w.heap.size, 0, none⟩) (by show w.heap.size < _; omega) e1
    have HB := Lib.hid hb
    have Z5 := Lib.hid B5.size
    clear hown5 hend5 hg hb hown B5 E1 ez
    go_wp2
    go_loopw [6] (fun i wr => ∃ k : Nat, k ≤ l.length ∧ i = .int .i64 k ∧ Below (w.heap.size + 1) w5 wr ∧ Hid (BoolsAt wr g n (beh f (l.take k)))) (fun i _ => l.length - (intOf i).toNat)
    case atStart => exact ⟨0, Nat.zero_le _, rfl, Below.refl _ _, HB⟩
    case round =>
      obtain ⟨k, hk, rfl, hbe, D⟩ := hrel
      have F6 : Ext w wr := F5.trans' hbe (by omega)
      have d1 := cellB hbe (p := ⟨w.heap.size, 0, none⟩) (by show w.heap.size < _; omega) e1
      clear HB
      by_cases hlt : k < l.length
      · obtain ⟨b, off, ha, p1, p2⟩ := HC.out.ext F6 k hlt
        subst ha
        have hkn := HK.out k hlt
        have HB := Lib.hid (beh_take f l hlt)
        generalize l.getD k stk0 = y at p1 p2 hkn HB
        obtain ⟨ya, yo⟩ := y
        dsimp only at p1 p2 hkn HB
        obtain ⟨g0, g6⟩ := hkn
        obtain ⟨m1, m2⟩ := D.out ya.toNat (by omega)
        have hta : ya.toNat < n := by omega
        have z1 := cell_lt p1
        have z2 := cell_lt m1
        dsimp only at z1 z2
        have hG5 := G5.out
        have DN : Hid (BoolsAt (wr.setCell ⟨g, ya.toNat, none⟩ (.bool yo)).drew g n (beh f (l.take (k + 1)))) := by
          show BoolsAt _ _ _ _
          rw [HB.out]
          exact (D.out.set g0 g6 yo).ext (Ext.refl _).drew
        have BN : Below (w.heap.size + 1) w5 (wr.setCell ⟨g, ya.toNat, none⟩ (.bool yo)).drew := (hbe.setCell (p := ⟨g, ya.toNat, none⟩) hG5 _).drew
        go_wp2
        go_still_tail 14, (by kernel_rfl)
        go_wp2
        refine ⟨⟨k + 1, by omega, by go_num, BN, DN⟩, by simp [intOf]; omega⟩
      · have ht : l.take k = l := List.take_of_length_le (by omega)
        rw [ht] at D
        have hG5 := G5.out
        clear ht
        go_wp2
        go_ret
        exact ⟨g, c, rfl, D.out, by omega, F6⟩
theorem same_drop' {f : Int → Bool} {l : List Stk} {k : Nat} (h : k < l.length) {b : Bool} (e : anySame f (l.drop k) = b) : (f (l.getD k stk0).1 == (l.getD k stk0).2) = true ∧ b = true ∨ (f (l.getD k stk0).1 == (l.getD k stk0).2) = false ∧ anySame f (l.drop (k + 1)) = b := by
  have := same_drop h e
  cases c : (f (l.getD k stk0).1 == (l.getD k stk0).2)
  · rw [c, Bool.false_or] at this; exact .inr ⟨rfl, this⟩
  · rw [c, Bool.true_or] at this; exact .inl ⟨rfl, this.symm⟩
set_option maxHeartbeats 2000000 in
theorem SuitsR_any (l : List Stk) (wait : Int) (a : Option Addr) (cap : Nat) (n : Nat) (f : Int → Bool) (ea : Option Addr) (ec : Nat) (w : World) (hl : l.length ≤ maxLen) (hc : CellsK w a l) (_hn : n ≤ 6) (he : CellsB w ea n f) (hk : ∀ k, k < l.length → 0 ≤ (l.getD k stk0).1 ∧ (l.getD k stk0).1 < n) :
    Calls Tryz.prog 134 #[.agg #[.slice a l.length cap, .int .i64 wait], .slice ea n ec] w fun r w' => r = .returned (.bool (!anySame f l)) ∧ Ext w w' := by
  have HC := Lib.hid hc
  have HE := Lib.hid he
  have HK := Lib.hid hk
  clear hc he hk
  unfold maxLen at hl
  go_enter Tryz.func134, Tryz.ntmps134
  go_wp2
  have E1 : Ext w (w.alloc (.cells #[.slice a l.length cap, .int .i64 wait] 128)) := extA
  have e1 : (w.alloc (.cells #[.slice a l.length cap, .int .i64 wait] 128)).cell? ⟨w.heap.size, 0, none⟩ = some (.slice a l.length cap) := by go_simp
  generalize w.alloc (.cells #[.slice a l.length cap, .int .i64 wait] 128) = W at E1 e1 ⊢
  go_loopw [5] (fun i wr => ∃ k : Nat, k ≤ l.length ∧ i = .int .i64 k ∧ Hid (anySame f (l.drop k) = anySame f l) ∧ Ext W wr) (fun i _ => l.length - (intOf i).toNat)
  case atStart => exact ⟨0, Nat.zero_le _, rfl, by show _ = _; rfl, Ext.refl _⟩
  case round =>
    obtain ⟨k, hk, rfl, hz, he⟩ := hrel
    have d1 := he.cell e1
    have y1 := cell_lt d1
    dsimp only at y1
    by_cases hlt : k < l.length
    · obtain ⟨b, off, ha, p1, p2⟩ := HC.out.ext (E1.trans he) k hlt
      subst ha
      have hkn := HK.out k hlt
      have HZ := Lib.hid (same_drop' hlt hz.out)
      clear hz
      generalize l.getD k stk0 = y at p1 p2 hkn HZ
      obtain ⟨ya, yo⟩ := y
      dsimp only at p1 p2 hkn HZ
      obtain ⟨g0, g6⟩ := hkn
      obtain ⟨b', off', hb', m1⟩ := HE.out.ext (E1.trans he) ya.toNat (by omega)
      subst hb'
      rw [Int.toNat_of_nonneg g0] at m1
      have z1 := cell_lt p1
      have z2 := cell_lt m1
      dsimp only at z1 z2
      have hng : decide ((n : Int) ≤ ya) = false := by simp; omega
      rcases HZ.out with ⟨h1, h2⟩ | ⟨h1, h2⟩
      · have H2 := Lib.hid h2
        clear h2 HZ
        go_wp2
        go_quiet (fail)
        go_wp2
        go_ret
        exact ⟨ret_bool (by rw [H2.out]; rfl), extA⟩
      · have H2 := Lib.hid h2
        clear h2 HZ
        go_wp2
        go_quiet (fail)
        go_wp2
        refine ⟨⟨k + 1, by omega, by go_num, H2, extA⟩, by simp [intOf]; omega⟩
    · have hz1 := hz.out
      rw [List.drop_eq_nil_of_le (by omega)] at hz1
      have H2 := Lib.hid hz1
      clear hz1 hz
      go_wp2
      go_ret
      exact ⟨ret_bool (by rw [← H2.out]; rfl), extA⟩
def wayL (a : Int) : List Stk → Int
  | [] => 0
  | y :: l => if y.1 = a then (if y.2 then 1 else -1) else wayL a l
theorem wayL_drop {a : Int} {l : List Stk} {k : Nat} (h : k < l.length) {r : Int} (e : wayL a (l.drop k) = r) : ((l.getD k stk0).1 = a ∧ r = if (l.getD k stk0).2 then 1 else -1) ∨ (((l.getD k stk0).1 == a) = false ∧ wayL a (l.drop (k + 1)) = r) := by
  rw [drop_cons l stk0 h] at e
  unfold wayL at e
  by_cases c : (l.getD k stk0).1 = a
  · rw [if_pos c] at e; exact .inl ⟨c, e.symm⟩
  · rw [if_neg c] at e; exact .inr ⟨by simpa using c, e⟩
set_option maxHeartbeats 2000000 in
theorem WayR_any (l : List Stk) (wait : Int) (x : Int) (a : Option Addr) (cap : Nat) (w : World) (hl : l.length ≤ maxLen) (hc : CellsK w a l) :
    Calls Tryz.prog 136 #[.agg #[.slice a l.length cap, .int .i64 wait], .int .i64 x] w fun r w' => r = .returned (.int .i64 (wayL x l)) ∧ Ext w w' := by
  have HC := Lib.hid hc
  clear hc
  unfold maxLen at hl
  go_enter Tryz.func136, Tryz.ntmps136
  go_wp2
  have E1 : Ext w (w.alloc (.cells #[.slice a l.length cap, .int .i64 wait] 128)) := extA
  have e1 : (w.alloc (.cells #[.slice a l.length cap, .int .i64 wait] 128)).cell? ⟨w.heap.size, 0, none⟩ = some (.slice a l.length cap) := by go_simp
  generalize w.alloc (.cells #[.slice a l.length cap, .int .i64 wait] 128) = W at E1 e1 ⊢
  go_loopw [5] (fun i wr => ∃ k : Nat, k ≤ l.length ∧ i = .int .i64 k ∧ Hid (wayL x (l.drop k) = wayL x l) ∧ Ext W wr) (fun i _ => l.length - (intOf i).toNat)
  case atStart => exact ⟨0, Nat.zero_le _, rfl, by show _ = _; rfl, Ext.refl _⟩
  case round =>
    obtain ⟨k, hk, rfl, hz, he⟩ := hrel
    have d1 := he.cell e1
    by_cases hlt : k < l.length
    · obtain ⟨b, off, ha, p1, p2⟩ := HC.out.ext (E1.trans he) k hlt
      subst ha
      have HZ := Lib.hid (wayL_drop hlt hz.out)
      clear hz
      generalize l.getD k stk0 = y at p1 p2 HZ
      obtain ⟨ya, yo⟩ := y
      dsimp only at p1 p2 HZ
      have z1 := cell_lt p1
      dsimp only at z1
      rcases HZ.out with ⟨h1, h2⟩ | ⟨h1, h2⟩
      · subst h1
        have H2 := Lib.hid h2
        clear h2 HZ
        cases yo
        · go_wp2
          go_ret
          exact ⟨ret_int (by rw [H2.out]; rfl), extA⟩
        · go_wp2
          go_ret
          exact ⟨ret_int (by rw [H2.out]; rfl), extA⟩
      · have H2 := Lib.hid h2
        clear h2 HZ
        go_wp2
        refine ⟨⟨k + 1, by omega, by go_num, H2, extA⟩, by simp [intOf]; omega⟩
    · have hz1 := hz.out
      rw [List.drop_eq_nil_of_le (by omega)] at hz1
      have H2 := Lib.hid hz1
      clear hz1 hz
      go_wp2
      go_ret
      exact ⟨ret_int (by rw [← H2.out]; rfl), extA⟩
theorem wayL_moves (a : Int) (l : List Stk) : (wayL a l != 0) = movesL a l := by
  induction l with
  | nil => rfl
  | cons y l ih =>
    unfold wayL movesL
    rw [List.any_cons]
    by_cases c : y.1 = a
    · rw [if_pos c, c]
      cases y.2 <;> simp
    · have c' : (y.1 == a) = false := by simpa using c
      rw [if_neg c, c', Bool.false_or, ih]; rfl
end Go.Proofs.YtlnonmmaknhppaaGreatDoor
namespace Go.Proofs.YtlnonmmaknhppaaGreatDoor
open Go.RowKit
theorem makeBools (n : Nat) (hn : n ≤ 64) (w : World) : (Instr.makeSlice 180 (.int .i64 (n : Int)) (.int .i64 (n : Int))).run Tryz.prog w = .ok (.slice (some ⟨w.heap.size, 0, none⟩) n n) (w.alloc (.cells (madeCells #[.bool false] n) 4)) :=
  run_make_row' _ _ (.bool false) 1 Tryz.underlying180 infoBool rfl _ _ n (by omega) (by omega) w
theorem madeBools (w : World) (n : Nat) (t : TypeId) {p : Nat} (hp : w.heap.size = p) : BoolsAt (w.alloc (.cells (madeCells #[.bool false] n) t)) p n none6 := fun k hk => by
  subst hp
  refine ⟨?_, by simp [go_sem]⟩
  rw [World.cell?_alloc_new]
  simp [madeCells, hk, Nat.mod_one, none6]
theorem movedIn_drop {x : Int} {l : List Stp} {k : Nat} (h : k < l.length) {r : Bool} (e : movedIn x (l.drop k) = r) : ((wayL x (l.getD k stp0).1 != 0) = true ∧ r = true) ∨ ((wayL x (l.getD k stp0).1 != 0) = false ∧ movedIn x (l.drop (k + 1)) = r) := by
  rw [drop_cons l stp0 h] at e
  unfold movedIn at e
  rw [List.any_cons] at e
  rw [wayL_moves]
  have : movesIn x (l.getD k stp0) = movesL x (l.getD k stp0).1 := rfl
  rw [this] at e
  cases c : movesL x (l.getD k stp0).1
  · rw [c, Bool.false_or] at e; exact .inr ⟨rfl, e⟩
  · rw [c, Bool.true_or] at e; exact .inl ⟨rfl, e.symm⟩
set_option maxHeartbeats 2000000 in
theorem movesR_any (n : Value) (l : List Stp) (x : Int) (a : Option Addr) (cap : Nat) (w : World) (hl : l.length ≤ maxLen) (hc : CellsP w a l) :
    Calls Tryz.prog 91 #[.agg #[n, .slice a l.length cap], .int .i64 x] w fun r w' => r = .returned (.bool (movedIn x l)) ∧ Ext w w' := by
  have HC := Lib.hid hc
  clear hc
  unfold maxLen at hl
  go_enter Tryz.func91, Tryz.ntmps91
  go_wp2
  have E1 : Ext w (w.alloc (.cells #[n, .slice a l.length cap] 71)) := extA
  have e1 : (w.alloc (.cells #[n, .slice a l.length cap] 71)).cell? ⟨w.heap.size, 1, none⟩ = some (.slice a l.length cap) := by go_simp
  generalize w.alloc (.cells #[n, .slice a l.length cap] 71) = W at E1 e1 ⊢
  go_loopw [5] (fun i wr => ∃ k : Nat, k ≤ l.length ∧ i = .int .i64 k ∧ Hid (movedIn x (l.drop k) = movedIn x l) ∧ Ext W wr) (fun i _ => l.length - (intOf i).toNat)
  case atStart => exact ⟨0, Nat.zero_le _, rfl, by show _ = _; rfl, Ext.refl _⟩
  case round =>
    obtain ⟨k, hk, rfl, hz, he⟩ := hrel
    have d1 := he.cell e1
    by_cases hlt : k < l.length
    · obtain ⟨b, off, v, ha, p1, hv, p2⟩ := HC.out.ext (E1.trans he) k hlt
      subst ha
      obtain ⟨sa, sc, rfl, hcs, hls⟩ := hv
      have HZ := Lib.hid (movedIn_drop hlt hz.out)
      have HCS := Lib.hid hcs
      have HLS := Lib.hid hls
      clear hz hcs hls
      generalize l.getD k stp0 = y at p1 p2 HCS HLS HZ
      obtain ⟨st, wait⟩ := y
      dsimp only at p1 p2 HCS HLS HZ
      have z1 := cell_lt p1
      dsimp only at z1
      rcases HZ.out with ⟨h1, h2⟩ | ⟨h1, h2⟩
      · have H2 := Lib.hid h2
        have H1 := Lib.hid h1
        clear h1 h2 HZ
        go_wp2_with fail
        refine (WayR_any st wait x sa sc _ HLS.out HCS.out).mono ?_
        rintro r w2 ⟨rfl, hE⟩
        have h1 := H1.out
        go_wp2
        go_ret
        exact ⟨ret_bool H2.out.symm, extA⟩
      · have H2 := Lib.hid h2
        have H1 := Lib.hid h1
        clear h1 h2 HZ
        go_wp2_with fail
        refine (WayR_any st wait x sa sc _ HLS.out HCS.out).mono ?_
        rintro r w2 ⟨rfl, hE⟩
        have h1 := H1.out
        go_wp2
        refine ⟨⟨k + 1, by omega, by go_num, H2, extA⟩, by simp [intOf]; omega⟩
    · have hz1 := hz.out
      rw [List.drop_eq_nil_of_le (by omega)] at hz1
      have H2 := Lib.hid hz1
      clear hz1 hz
      go_wp2
      go_ret
      exact ⟨ret_bool (by rw [← H2.out]; rfl), extA⟩
def Fine (n : Int) (l : List Stp) : Prop := ∀ k, k < l.length → ckStep (l.getD k stp0) = 0 ∧ ∀ j, j < (l.getD k stp0).1.length → 0 ≤ ((l.getD k stp0).1.getD j stk0).1 ∧ ((l.getD k stp0).1.getD j stk0).1 < n
theorem ckFit_fine {n : Int} {x : Stp} {e : Int → Bool} (h : ckFit n x e = 0) : ∀ j, j < x.1.length → 0 ≤ (x.1.getD j stk0).1 ∧ (x.1.getD j stk0).1 < n := fun j hj => by
  have hk := ckFit_ok h
  refine ⟨(ckStep_known hk.1 j hj).1, ?_⟩
  have h2 := hk.2.1
  unfold anyHigh at h2
  rw [List.any_eq_false] at h2
  have := h2 (x.1.getD j stk0) (by rw [List.getD_eq_getElem?_getD, List.getElem?_eq_getElem hj]; exact List.getElem_mem hj)
  simp at this
  exact this
theorem ckWalk_fine {n : Int} {l : List Stp} {e : Int → Bool} (h : ckWalk n e l = 0) : Fine n l := by
  induction l generalizing e with
  | nil => intro k hk; simp at hk
  | cons x l ih =>
    have hc := ckWalk_cons h
    by_cases hf : ckFit n x e = 0
    · intro k hk
      cases k with
      | zero => exact ⟨(ckFit_ok hf).1, ckFit_fine hf⟩
      | succ k => exact ih (hc.2 hf) k (by simpa using hk)
    · exact absurd (hc.1 hf).symm hf
end Go.Proofs.YtlnonmmaknhppaaGreatDoor
namespace Go.Proofs.YtlnonmmaknhppaaGreatDoor
open Go.RowKit
theorem CellsB.at {w : World} {p n : Nat} {f : Int → Bool} (h : BoolsAt w p n f) {k : Nat} (hk : k < n) : w.cell? ⟨p, k, none⟩ = some (.bool (f k)) := (h k hk).1
def stepsE (n : Int) (l : List Stp) : Int := if ckWalk n none6 l ≠ 0 then ckWalk n none6 l else if (ints n).any (behAll none6 l) then 9 else 0
theorem ints_any_of {n : Nat} {f : Int → Bool} {k : Nat} (hk : k < n) (h : f k = true) : (ints (n : Int)).any f = true := by
  unfold ints
  rw [List.any_map, Int.toNat_natCast]
  exact List.any_eq_true.2 ⟨k, List.mem_range.2 hk, h⟩
theorem ints_any_none {n : Nat} {f : Int → Bool} (h : ∀ k : Nat, k < n → f k = false) : (ints (n : Int)).any f = false := by
  unfold ints
  rw [List.any_map, Int.toNat_natCast, List.any_eq_false]
  intro k hk
  simp [h k (List.mem_range.1 hk)]
set_option maxHeartbeats 4000000 in
set_option maxRecDepth 100000 in
theorem stepsR_any (n : Nat) (l : List Stp) (a : Option Addr) (cap : Nat) (w : World) (hl : l.length ≤ maxLen) (hc : CellsP w a l) (h0 : 0 < n) (hn : n ≤ 6) :
    Calls Tryz.prog 90 #[.agg #[.int .i64 (n : Int), .slice a l.length cap]] w fun r w' => r = .returned (.int .i64 (stepsE n l)) ∧ Ext w w' := by
  have HC := Lib.hid hc
  clear hc
  unfold maxLen at hl
  have hmk := makeBools n (by omega)
  go_enter Tryz.func90, Tryz.ntmps90
  go_wp2
  have E1 : Ext w ((w.alloc (.cells #[.int .i64 (n : Int), .slice a l.length cap] 71)).alloc (.cells (madeCells #[.bool false] n) 4)) := extA
  have e0 : ((w.alloc (.cells #[.int .i64 (n : Int), .slice a l.length cap] 71)).alloc (.cells (madeCells #[.bool false] n) 4)).cell? ⟨w.heap.size, 0, none⟩ = some (.int .i64 (n : Int)) := by go_simp
  have e1 : ((w.alloc (.cells #[.int .i64 (n : Int), .slice a l.length cap] 71)).alloc (.cells (madeCells #[.bool false] n) 4)).cell? ⟨w.heap.size, 1, none⟩ = some (.slice a l.length cap) := by go_simp
  have hb : BoolsAt ((w.alloc (.cells #[.int .i64 (n : Int), .slice a l.length cap] 71)).alloc (.cells (madeCells #[.bool false] n) 4)) (w.heap.size + 1) n none6 := madeBools _ n _ (by simp)
  have HB := Lib.hid hb
  clear hb hmk
  generalize ((w.alloc (.cells #[.int .i64 (n : Int), .slice a l.length cap] 71)).alloc (.cells (madeCells #[.bool false] n) 4)) = W at E1 e0 e1 HB ⊢
  go_loopw [4, 3] (fun i v wr => ∃ k : Nat, k ≤ l.length ∧ i = .int .i64 k ∧ (∃ g c, v = .slice (some ⟨g, 0, none⟩) n c ∧ Hid (BoolsAt wr g n (behAll none6 (l.take k)))) ∧ Hid (ckWalk n (behAll none6 (l.take k)) (l.drop k) = ckWalk n none6 l) ∧ Ext W wr) (fun i _ _ => l.length - (intOf i).toNat)
  case atStart => exact ⟨0, Nat.zero_le _, rfl, ⟨w.heap.size + 1, n, rfl, HB⟩, by show _ = _; rfl, Ext.refl _⟩
  case round =>
    obtain ⟨k, hk, rfl, ⟨g, c, rfl, D⟩, hz, he⟩ := hrel
    clear HB
    have d0 := he.cell e0
    have d1 := he.cell e1
    have y1 := cell_lt d1
    dsimp only at y1
    by_cases hlt : k < l.length
    · obtain ⟨b, off, v, ha, p1, hv, p2⟩ := HC.out.ext (E1.trans he) k hlt
      subst ha
      obtain ⟨sa, sc, rfl, hcs, hls⟩ := hv
      have hz1 := hz.out
      rw [drop_cons l stp0 hlt] at hz1
      have HZ := Lib.hid (ckWalk_cons hz1)
      have HT := Lib.hid (behAll_take none6 l hlt)
      have HCS := Lib.hid hcs
      have HLS := Lib.hid hls
      clear hcs hls hz1 hz
      generalize l.getD k stp0 = y at p1 p2 HCS HLS HZ HT
      obtain ⟨st, wait⟩ := y
      dsimp only at p1 p2 HCS HLS HZ HT
      generalize hee : behAll none6 (l.take k) = ee at D HZ HT
      have HEE := Lib.hid hee
      clear hee
      have z1 := cell_lt p1
      dsimp only at z1
      go_wp2_with fail
      have F1 : Ext w (wr.alloc (.cells #[.slice sa st.length sc, .int .i64 wait] 128)) := extA
      have f0 := ((Ext.refl wr).alloc (.cells #[.slice sa st.length sc, .int .i64 wait] 128)).cell d0
      have f1 : (wr.alloc (.cells #[.slice sa st.length sc, .int .i64 wait] 128)).cell? ⟨wr.heap.size, 0, none⟩ = some (.slice sa st.length sc) := by go_simp
      have f2 : (wr.alloc (.cells #[.slice sa st.length sc, .int .i64 wait] 128)).cell? ⟨wr.heap.size, 1, none⟩ = some (.int .i64 wait) := by go_simp
      have ER : Ext wr (wr.alloc (.cells #[.slice sa st.length sc, .int .i64 wait] 128)) := extA
      generalize wr.alloc (.cells #[.slice sa st.length sc, .int .i64 wait] 128) = W1 at F1 ER f0 f1 f2 ⊢
      refine (CheckStepR_any st wait sa sc _ HLS.out (HCS.out.ext ER)).mono ?_
      rintro r w2 ⟨rfl, hE⟩
      have F2 := ER.trans hE
      have f0 := hE.cell f0
      have f1 := hE.cell f1
      have f2 := hE.cell f2
      have HLS6 := HLS.out
      unfold maxLen at HLS6
      by_cases h1 : ckStep (st, wait) = 0
      · rw [h1]
        have HFIT : Hid (ckFit n (st, wait) ee = if anyHigh n st then 6 else if anySame ee st then 14 else 0) := by show _ = _; unfold ckFit; rw [if_neg (by simp [h1])]
        have HS := Lib.hid (ckStep_known h1)
        have h6 : st.length ≤ 6 := (ckStep_strokes h1).2.1
        clear h1
        go_wp2
        obtain ⟨wo, rfl⟩ : ∃ wo : World, wo = wr := ⟨_, rfl⟩
        go_loopw [7] (fun j wr => ∃ q : Nat, q ≤ st.length ∧ j = .int .i64 q ∧ Hid (anyHigh n (st.drop q) = anyHigh n st) ∧ Hid (∀ i, i < q → (st.getD i stk0).1 < n) ∧ Ext w2 wr) (fun j _ => st.length - (intOf j).toNat)
        case atStart => exact ⟨0, Nat.zero_le _, rfl, by show _ = _; rfl, fun i hi => by omega, Ext.refl _⟩
        case round =>
          obtain ⟨q, hq, rfl, hzq, hlow, he2⟩ := hrel
          have g0 := he2.cell f0
          have g1 := he2.cell f1
          have g2 := he2.cell f2
          have FW := F2.trans he2
          by_cases hltq : q < st.length
          · obtain ⟨b', off', ha', q1, q2⟩ := HCS.out.ext FW q hltq
            subst ha'
            have HQ := Lib.hid (high_drop hltq hzq.out)
            have HY : Hid (∀ x, (st.getD q stk0).1 = x → x < n → ∀ i, i < q + 1 → (st.getD i stk0).1 < n) := fun x hx hxn i hi => by
              rcases Nat.lt_or_eq_of_le (Nat.le_of_lt_succ hi) with h | rfl
              · exact hlow.out i h
              · rw [hx]; exact hxn
            clear hzq
            generalize st.getD q stk0 = y at q1 q2 HQ HY
            obtain ⟨ya, yo⟩ := y
            dsimp only at q1 q2 HQ HY
            have zq := cell_lt q1
            dsimp only at zq
            by_cases hh : (n : Int) ≤ ya
            · have HR : Hid (stepsE n l = 6) := by
                show _ = _
                have h := HQ.out
                rw [decide_eq_true hh, Bool.true_or] at h
                have hf := HFIT.out
                rw [if_pos h.symm] at hf
                have h3 := HZ.out.1 (by rw [hf]; decide)
                unfold stepsE
                rw [h3, hf]; rfl
              clear HQ
              go_wp2
              go_quiet (fail)
              go_wp2
              go_ret
              exact ⟨ret_int HR.out.symm, extA⟩
            · have HQ2 : Hid (anyHigh n (st.drop (q + 1)) = anyHigh n st) := by
                show _ = _
                have h := HQ.out
                rw [decide_eq_false hh, Bool.false_or] at h
                exact h
              have HL2 : Hid (∀ i, i < q + 1 → (st.getD i stk0).1 < n) := HY.out ya rfl (by omega)
              clear HQ
              go_wp2
              go_quiet (fail)
              go_wp2
              refine ⟨⟨q + 1, by omega, by go_num, HQ2, HL2, extA⟩, by simp [intOf]; omega⟩
          · have hqe : q = st.length := by omega
            have HFL : Hid (∀ j, j < st.length → 0 ≤ (st.getD j stk0).1 ∧ (st.getD j stk0).1 < n) := fun j hj => ⟨(HS.out j hj).1, hlow.out j (by omega)⟩
            have HF3 : Hid (ckFit n (st, wait) ee = if anySame ee st then 14 else 0) := by
              show _ = _
              have h := hzq.out
              rw [List.drop_eq_nil_of_le (by omega)] at h
              rw [HFIT.out, ← h]; rfl
            clear hzq hlow HFIT hqe
            cases hsame : anySame ee st
            · have HF4 : Hid (ckFit n (st, wait) ee = 0) := by show _ = _; rw [HF3.out, hsame]; rfl
              have HSM := Lib.hid hsame
              clear hsame HF3
              go_wp2_with fail
              refine (SuitsR_any st wait sa sc n ee _ c _ HLS.out (HCS.out.ext FW) hn (D.out.ext FW).cells HFL.out).mono ?_
              rintro r w3 ⟨rfl, hE3⟩
              rw [HSM.out]
              have g1 := hE3.cell g1
              have g2 := hE3.cell g2
              have FW3 := FW.trans hE3
              go_wp2_with fail
              refine (AfterR_any st wait sa sc n ee g 0 c _ HLS.out (HCS.out.ext FW3) hn h0 (D.out.ext FW3).cells HFL.out).mono ?_
              rintro r w4 ⟨g4, c4, rfl, hb4, hg4, hE4⟩
              have DN : Hid (BoolsAt w4 g4 n (behAll none6 (l.take (k + 1)))) := by show BoolsAt _ _ _ _; rw [HT.out]; exact hb4
              have ZN : Hid (ckWalk n (behAll none6 (l.take (k + 1))) (l.drop (k + 1)) = ckWalk n none6 l) := by show _ = _; rw [HT.out]; exact HZ.out.2 HF4.out
              clear hb4 D
              go_wp2
              refine ⟨⟨k + 1, by omega, by go_num, ⟨g4, c4, rfl, DN⟩, ZN, extA⟩, by simp [intOf]; omega⟩
            · have HR : Hid (stepsE n l = 14) := by
                show _ = _
                have hf := HF3.out
                rw [if_pos hsame] at hf
                have h3 := HZ.out.1 (by rw [hf]; decide)
                unfold stepsE
                rw [h3, hf]; rfl
              have HSM := Lib.hid hsame
              clear hsame HF3
              go_wp2_with fail
              refine (SuitsR_any st wait sa sc n ee _ c _ HLS.out (HCS.out.ext FW) hn (D.out.ext FW).cells HFL.out).mono ?_
              rintro r w3 ⟨rfl, hE3⟩
              rw [HSM.out]
              go_wp2
              go_ret
              exact ⟨ret_int HR.out.symm, extA⟩
      · have h1' : (ckStep (st, wait) != 0) = true := by simp [h1]
        have HR : Hid (stepsE n l = ckStep (st, wait)) := by
          show _ = _
          have hf : ckFit n (st, wait) ee = ckStep (st, wait) := by unfold ckFit; rw [if_pos h1]
          have h3 := HZ.out.1 (by rw [hf]; exact h1)
          unfold stepsE
          rw [h3, hf, if_pos h1]
        clear h1
        generalize ckStep (st, wait) = cs at h1' HR
        go_wp2
        go_ret
        exact ⟨ret_int HR.out.symm, extA⟩
    · have hlt' : l.take k = l := List.take_of_length_le (by omega)
      have hz1 := hz.out
      rw [List.drop_eq_nil_of_le (by omega)] at hz1
      have HE : Hid (stepsE n l = if (ints n).any (behAll none6 l) then 9 else 0) := by
        show _ = _
        unfold stepsE
        rw [← hz1]; rfl
      rw [hlt'] at D
      clear hz1 hz hlt'
      generalize behAll none6 l = ee at D HE
      go_wp2
      obtain ⟨wo, rfl⟩ : ∃ wo : World, wo = wr := ⟨_, rfl⟩
      go_loopw [8] (fun j wr => ∃ q : Nat, q ≤ n ∧ j = .int .i64 q ∧ Hid (∀ i : Nat, i < q → ee i = false) ∧ wo = wr) (fun j _ => n - (intOf j).toNat)
      case atStart => exact ⟨0, Nat.zero_le _, rfl, fun i hi => by omega, rfl⟩
      case round =>
        obtain ⟨q, hq, rfl, hlow, rfl⟩ := hrel
        by_cases hltq : q < n
        · have m1 := (D.out q hltq).1
          cases hq1 : ee q
          · have HN : Hid (∀ i : Nat, i < q + 1 → ee i = false) := fun i hi => by
              rcases Nat.lt_or_eq_of_le (Nat.le_of_lt_succ hi) with h | rfl
              · exact hlow.out i h
              · exact hq1
            rw [hq1] at m1
            clear hq1
            go_wp2
            refine ⟨⟨q + 1, by omega, by go_num, HN, trivial⟩, by simp [intOf]; omega⟩
          · have HR : Hid (stepsE n l = 9) := by show _ = _; rw [HE.out, if_pos (ints_any_of hltq hq1)]
            rw [hq1] at m1
            clear hq1
            go_wp2
            go_ret
            exact ⟨ret_int HR.out.symm, extA⟩
        · have HR : Hid (stepsE n l = 0) := by
            show _ = _
            rw [HE.out, ints_any_none (fun i hi => hlow.out i (by omega))]; rfl
          go_wp2
          go_ret
          exact ⟨ret_int HR.out.symm, extA⟩
set_option maxHeartbeats 4000000 in
theorem CheckR_any (n : Int) (l : List Stp) (a : Option Addr) (cap : Nat) (w : World) (hl : l.length ≤ maxLen) (hc : CellsP w a l) :
    Calls Tryz.prog 44 #[.agg #[.int .i64 n, .slice a l.length cap]] w fun r w' => r = .returned (.int .i64 (ckSeq (n, l))) ∧ Ext w w' := by
  have HC := Lib.hid hc
  have HL := Lib.hid hl
  unfold maxLen at hl
  clear hc
  by_cases h1 : n < 1
  · have hf : Hid (ckSeq (n, l) = 2) := by show _ = _; unfold ckSeq; rw [if_pos (Or.inl h1)]
    go_enter Tryz.func44, Tryz.ntmps44
    go_wp2
    all_goals go_ret
    all_goals exact ⟨ret_int hf.out.symm, extA⟩
  by_cases h2 : 6 < n
  · have hf : Hid (ckSeq (n, l) = 2) := by show _ = _; unfold ckSeq; rw [if_pos (Or.inr h2)]
    go_enter Tryz.func44, Tryz.ntmps44
    go_wp2
    all_goals go_ret
    all_goals exact ⟨ret_int hf.out.symm, extA⟩
  by_cases h0 : l.length = 0
  · have hf : Hid (ckSeq (n, l) = 13) := by show _ = _; unfold ckSeq; rw [if_neg (by dsimp only; omega), if_pos h0]
    have h0' : ((l.length : Int) == 0) = true := by simp [h0]
    have h0b : (l.length == 0) = true := by simp [h0]
    go_enter Tryz.func44, Tryz.ntmps44
    go_wp2
    all_goals go_ret
    all_goals exact ⟨ret_int hf.out.symm, extA⟩
  have h0' : ((l.length : Int) == 0) = false := beq_eq_false_iff_ne.2 (by omega)
  have h0b : (l.length == 0) = false := beq_eq_false_iff_ne.2 h0
  by_cases h6 : 64 < l.length
  · have hf : Hid (ckSeq (n, l) = 5) := by show _ = _; unfold ckSeq; rw [if_neg (by dsimp only; omega), if_neg h0, if_pos h6]
    go_enter Tryz.func44, Tryz.ntmps44
    go_wp2
    all_goals go_ret
    all_goals exact ⟨ret_int hf.out.symm, extA⟩
  obtain ⟨N, rfl⟩ := Int.eq_ofNat_of_zero_le (show 0 ≤ n by omega)
  have hf : Hid (ckSeq ((N : Int), l) = if stepsE N l ≠ 0 then stepsE N l else if (ints N).any (fun a => !movedIn a l) then 13 else 0) := by
    show _ = _
    unfold ckSeq stepsE
    rw [if_neg (by dsimp only; omega), if_neg h0, if_neg h6]
    dsimp only
    by_cases c1 : ckWalk N none6 l ≠ 0
    · rw [if_pos c1, if_pos c1, if_pos c1]
    · rw [if_neg c1, if_neg c1]
      by_cases c2 : (ints N).any (behAll none6 l) = true
      · rw [if_pos c2, if_pos c2]; rfl
      · rw [if_neg c2, if_neg c2]; rfl
  clear h0
  have hN1 : 0 < N := by omega
  have hN6 : N ≤ 6 := by omega
  go_enter Tryz.func44, Tryz.ntmps44
  go_wp2_with fail
  have E1 : Ext w (w.alloc (.cells #[.int .i64 (N : Int), .slice a l.length cap] 71)) := extA
  have e0 : (w.alloc (.cells #[.int .i64 (N : Int), .slice a l.length cap] 71)).cell? ⟨w.heap.size, 0, none⟩ = some (.int .i64 (N : Int)) := by go_simp
  have e1 : (w.alloc (.cells #[.int .i64 (N : Int), .slice a l.length cap] 71)).cell? ⟨w.heap.size, 1, none⟩ = some (.slice a l.length cap) := by go_simp
  generalize w.alloc (.cells #[.int .i64 (N : Int), .slice a l.length cap] 71) = W at E1 e0 e1 ⊢
  refine (stepsR_any N l a cap _ HL.out (HC.out.ext E1) hN1 hN6).mono ?_
  rintro r w2 ⟨rfl, hE⟩
  have F2 := E1.trans hE
  have e0 := hE.cell e0
  have e1 := hE.cell e1
  by_cases hs : stepsE N l = 0
  · have HF : Hid (ckSeq ((N : Int), l) = if (ints N).any (fun a => !movedIn a l) then 13 else 0) := by show _ = _; rw [hf.out, if_neg (by simp [hs])]
    rw [hs]
    clear hs hf
    go_wp2
    go_loopw [4] (fun j wr => ∃ q : Nat, q ≤ N ∧ j = .int .i64 q ∧ Hid (∀ i : Nat, i < q → movedIn i l = true) ∧ Ext w2 wr) (fun j _ => N - (intOf j).toNat)
    case atStart => exact ⟨0, Nat.zero_le _, rfl, fun i hi => by omega, Ext.refl _⟩
    case round =>
      obtain ⟨q, hq, rfl, hlow, he⟩ := hrel
      have g0 := he.cell e0
      have g1 := he.cell e1
      by_cases hltq : q < N
      · cases hm : movedIn q l
        · have HR : Hid (ckSeq ((N : Int), l) = 13) := by show _ = _; rw [HF.out, if_pos (ints_any_of hltq (by simp [hm]))]
          have HM := Lib.hid hm
          clear hm
          go_wp2_with fail
          refine (movesR_any _ l q a cap _ HL.out (HC.out.ext (F2.trans he))).mono ?_
          rintro r w3 ⟨rfl, hE3⟩
          rw [HM.out]
          go_wp2
          go_ret
          exact ⟨ret_int HR.out.symm, extA⟩
        · have HN : Hid (∀ i : Nat, i < q + 1 → movedIn i l = true) := fun i hi => by
            rcases Nat.lt_or_eq_of_le (Nat.le_of_lt_succ hi) with h | rfl
            · exact hlow.out i h
            · exact hm
          have HM := Lib.hid hm
          clear hm
          go_wp2_with fail
          refine (movesR_any _ l q a cap _ HL.out (HC.out.ext (F2.trans he))).mono ?_
          rintro r w3 ⟨rfl, hE3⟩
          rw [HM.out]
          go_wp2
          refine ⟨⟨q + 1, by omega, by go_num, HN, extA⟩, by simp [intOf]; omega⟩
      · have HR : Hid (ckSeq ((N : Int), l) = 0) := by
          show _ = _
          rw [HF.out, ints_any_none (fun i hi => by simp [hlow.out i (by omega)])]; rfl
        go_wp2
        go_ret
        exact ⟨ret_int HR.out.symm, extA⟩
  · have hs' : (stepsE N l != 0) = true := by simp [hs]
    have HR : Hid (ckSeq ((N : Int), l) = stepsE N l) := by show _ = _; rw [hf.out, if_pos hs]
    clear hs hf
    generalize stepsE N l = x at hs' HR ⊢
    go_wp2
    go_ret
    exact ⟨ret_int HR.out.symm, extA⟩
end Go.Proofs.YtlnonmmaknhppaaGreatDoor
