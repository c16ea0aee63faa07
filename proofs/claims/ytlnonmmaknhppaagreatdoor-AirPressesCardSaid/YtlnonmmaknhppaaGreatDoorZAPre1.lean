/- Steps of the proof: AGiv, AOpen, AJoin, ALaw. No conditions. -/
import Derived.Test.YtlnonmmaknhppaaGreatDoorCards
import Derived.Test.YtlnonmmaknhppaaGreatDoorTie
import Derived.WalkKit
import Derived.ProofKit
import Derived.OpenShut
import Derived.Deep.DeepHandedRow
import Derived.Lib.LaidTab
import Derived.LaidSub
import Derived.Stop.LaidErr
import Derived.MakeChecks
import Derived.Lib.SmallJoins
import Derived.Deep.Slices
import Derived.Test.YtlnonmmaknhppaaGreatDoorZAB1
import Derived.Test.YtlnonmmaknhppaaGreatDoorZAB2
import Derived.Test.YtlnonmmaknhppaaGreatDoorZAB3
import Derived.Test.YtlnonmmaknhppaaGreatDoorZAB4
import Derived.Test.YtlnonmmaknhppaaGreatDoorZAB5
import Derived.Test.YtlnonmmaknhppaaGreatDoorZAB6
import Derived.Test.YtlnonmmaknhppaaGreatDoorZAB7
import Derived.Test.YtlnonmmaknhppaaGreatDoorZAB8
import Derived.Test.YtlnonmmaknhppaaGreatDoorZAB9
import Derived.Test.YtlnonmmaknhppaaGreatDoorZAB10
import Derived.Test.YtlnonmmaknhppaaGreatDoorZAB11
namespace Go.Proofs.YtlnonmmaknhppaaGreatDoor
open Go.ChangeShapes Go.WideShapes Go.ChangeAt Go.RowKit
theorem own : ownKnob Tryz.prog.godebug = none := by kernel_rfl
theorem gTab : Tryz.prog.globalNamed "internal/strconv.uint64pow10" = some 0 := by kernel_rfl
theorem gTabT : (Tryz.prog.globals[0]?).map (·.type) = some 269 := by kernel_rfl
theorem cellsTab : Tryz.prog.cellsOf 269 = 20 := by kernel_rfl
theorem cellsU64 : Tryz.prog.cellsOf 159 = 1 := by kernel_rfl
theorem gRng : Tryz.prog.globalNamed "strconv.ErrRange" = some 5 := by kernel_rfl
theorem gRngT : (Tryz.prog.globals[5]?).map (·.type) = some 229 := by kernel_rfl
theorem gSyn : Tryz.prog.globalNamed "strconv.ErrSyntax" = some 4 := by kernel_rfl
theorem gSynT : (Tryz.prog.globals[4]?).map (·.type) = some 229 := by kernel_rfl
theorem starE : "*" ++ "errors.errorString" = "*errors.errorString" := by decide
theorem rowE (u : TypeId) (h : Tryz.prog.typeName? 3 u = some "*errors.errorString") : u = 300 :=
  typeName_ptr_named (nm := "errors.errorString") (by rw [starE]; kernel_rfl) (by kernel_rfl) (by decide) u (by rw [starE]; exact h)
theorem cellsErr : Tryz.prog.cellsOf 302 = 1 := by kernel_rfl
theorem cellsStr : Tryz.prog.cellsOf 9 = 1 := by kernel_rfl
theorem glob_of {W : World} (hs : W.ShapedOpen Tryz.prog) (hL : laidMetH Tryz.prog Rows.airMeasuresRow.laid W) : Glob W := by
  have hP : laidMet Tryz.prog Rows.airMeasuresRow.laid W := by
    rw [← MakeChecks.laidMetH_plain _ _ _ (by kernel_rfl)]; exact hL
  have hP2 := hP.tail.tail
  have hP4 := hP2.tail.tail
  have hP5 := hP4.tail
  obtain ⟨a0, _, h0, _⟩ := laid_sentinel hP4 gRng gRngT Tryz.underlying229 rowE Tryz.underlying300 Tryz.underlying302 rfl rfl Tryz.underlying9 cellsErr cellsStr
  obtain ⟨a1, _, h1, _⟩ := laid_sentinel hP5 gSyn gSynT Tryz.underlying229 rowE Tryz.underlying300 Tryz.underlying302 rfl rfl Tryz.underlying9 cellsErr cellsStr
  exact ⟨cell_of_shapedOpen_int (zero := #[.int .i64 0]) (t := 3) hs (of_decide_eq_true (by kernel_rfl)) (by kernel_rfl) rfl (by kernel_rfl) (by kernel_rfl) Tryz.underlying3,
    Lib.tabIs_of_head gTab gTabT Tryz.underlying269 Tryz.underlying159 cellsU64 cellsTab hP2, ⟨_, _, h1⟩, ⟨_, _, h0⟩⟩
def flatD : Nat → DataW Unit → List Value
  | _ + 1, .lit (.int k z) => [.int k z]
  | n + 1, .agg ds => ds.flatMap (flatD n)
  | _, _ => []
def putC (cs : List Value) : Obj → Obj
  | .cells _ t frozen => .cells ⟨cs⟩ t frozen
  | o => o
noncomputable def lowB : Nat := (World.holding Tryz.prog default ⟨#[], #[], []⟩).heap.size
def rngS : ByteArray := ⟨#[118, 97, 108, 117, 101, 32, 111, 117, 116, 32, 111, 102, 32, 114, 97, 110, 103, 101]⟩
def synS : ByteArray := ⟨#[105, 110, 118, 97, 108, 105, 100, 32, 115, 121, 110, 116, 97, 120]⟩
noncomputable def laidWorld (os : Os) : World :=
  let w0 := World.holding Tryz.prog os ⟨#[.cells #[.string rngS] 302, .cells #[.string synS] 302], #[], []⟩
  { w0 with heap := (((((((w0.heap.modify 6 (putC (flatD 3 Rows.laid_math_bits_deBruijn32tab))).modify 7 (putC (flatD 3 Rows.laid_math_bits_deBruijn64tab))).modify
      0 (putC (flatD 3 Rows.laid_internal_strconv_uint64pow10))).modify 3 (putC (flatD 3 Rows.laid_unicode_utf8_acceptRanges))).modify
      5 (putC [.iface 300 (.pointer (some ⟨lowB, 0, none⟩))])).modify 4 (putC [.iface 300 (.pointer (some ⟨lowB + 1, 0, none⟩))])).modify
      2 (putC (flatD 3 Rows.laid_unicode_utf8_first))) }
theorem laid_met (os : Os) (args : Array Value) : laidMet Tryz.prog Rows.airMeasuresRow.laid ((laidWorld os).forCall (fun _ _ => 0) ⟨#[], args, []⟩).memory :=
  laidMet_of_run' 8 (by kernel_rfl) (by kernel_rfl)
end Go.Proofs.YtlnonmmaknhppaaGreatDoor
namespace Go.Proofs.YtlnonmmaknhppaaGreatDoor
open Go.RowKit Go.ChangeShapes Go.WideShapes Go.Joins Go.Deep
theorem laidOut : laidOutB Tryz.prog = true := by kernel_rfl
section
variable {H : Type} {enc : TypeId × Value → H} {w : World} {base : Nat} {spare : Nat → Bool} {held : Bool}
theorem i64_bd {n : Int} (h : (Lit.int .i64 n).wf = true) : -9223372036854775808 ≤ n ∧ n ≤ 9223372036854775807 := by
  simp only [Lit.wf, Bool.and_eq_true, decide_eq_true_eq] at h
  exact h
set_option maxRecDepth 100000 in
theorem open_cyl {r : Reach} {b0 : Nat} {v : Value} {d : DataW H} {p : List MemPlace} (hv : Value.okWide Tryz.prog w r b0 46 v) (h : DataW.Trod enc Tryz.prog w base spare held 46 v d p) :
    ∃ c : Cyl, v = cylV c ∧ Cyl64 c := by
  obtain ⟨c0, c1, c2, y0, y1, y2, n, rfl, _, _, h0, h1, h2⟩ := open_agg3 Tryz.underlying46 (by kernel_rfl) (by kernel_rfl) hv h
  obtain ⟨x0, e0, _, k0⟩ := DataW.trod_int Tryz.underlying3 h0
  obtain ⟨x1, e1, _, _⟩ := DataW.trod_int Tryz.underlying3 h1
  obtain ⟨x2, e2, _, _⟩ := DataW.trod_int Tryz.underlying3 h2
  simp at e0 e1 e2
  subst e0; subst e1; subst e2
  exact ⟨⟨x0, x1, x2⟩, rfl, i64_bd k0⟩
set_option maxRecDepth 100000 in
theorem open_bl {r : Reach} {b0 : Nat} {v : Value} (hv : Value.okWide Tryz.prog w r b0 4 v) : ∃ b : Bool, v = .bool b := by
  exact okWide_bool Tryz.underlying4 hv
end
end Go.Proofs.YtlnonmmaknhppaaGreatDoor
namespace Go.Proofs.YtlnonmmaknhppaaGreatDoor
open Go.RowKit Go.ChangeShapes Go.WideShapes Go.ChangeAt
theorem band {a b : Bool} (h : a = true) (k : b = true) : (a && b) = true := by rw [h, k]; rfl
theorem factLaid : laidOutB Tryz.pinned.checked.prog = true := by kernel_rfl
theorem factMaps : mapsRowed Tryz.pinned.checked.prog = true := by kernel_rfl
theorem factHeard : Tryz.pinned.checked.prog.stopsHeard = true := by kernel_rfl
theorem factEnter : Tryz.pinned.checked.prog.mayEnter = true := by kernel_rfl
theorem factLifts : (Rows.airMeasuresRow.lifted == Tryz.pinned.checked.prog.liftsFinal) = true := by kernel_rfl
theorem factMake : (Tryz.pinned.checked.prog.make == some Rows.airMeasuresRow.make) = true := by kernel_rfl
theorem factKeys : (Rows.airMeasuresRow.plainKeys == Tryz.pinned.checked.prog.plainKeys) = true := by kernel_rfl
end Go.Proofs.YtlnonmmaknhppaaGreatDoor
namespace Go.Proofs.YtlnonmmaknhppaaGreatDoor
open Go.RowKit
set_option maxHeartbeats 16000000 in
set_option maxRecDepth 100000 in
theorem lawPresses_any (c : Cyl) (out : Bool) (p : Int) (w : World) (hG : Glob w) (h64 : Cyl64 c) : Calls Tryz.prog 6 #[cylV c, .bool out, .int .i64 p] w fun e w' => e = .returned (.bool true) ∧ Ext w w' := by
  have HG := Lib.hid hG
  have HA := Lib.hid (fun W (g : Ext w W) => awake5_any W (HG.out.ext g))
  have HS := Lib.hid (fun W => sent_any c W)
  have X1 := Lib.hid (fun W (g : Ext w W) => aForce_any c out p W (HG.out.ext g))
  have Y1 := Lib.hid (fun W => rForce_any c out p W h64)
  have X2 := Lib.hid (fun W (g : Ext w W) => aStroke_any c out p W (HG.out.ext g))
  have Y2 := Lib.hid (fun W => rStroke_any c out p W h64)
  have X3 := Lib.hid (fun W => aCheck_any c W)
  have Y3 := Lib.hid (fun W => rCheck5_any c W h64)
  unfold EncP at X1 Y1 X2 Y2
  generalize forceS c out p = R1 at X1 Y1
  generalize strokeS c out p = R2 at X2 Y2
  generalize cylE c = n3 at X3 Y3
  obtain ⟨⟨p1, q1⟩, r1⟩ := R1
  obtain ⟨⟨p2, q2⟩, r2⟩ := R2
  obtain ⟨b, r, s⟩ := c
  dsimp only [encV, cylV] at HS X1 Y1 X2 Y2 X3 Y3 ⊢
  clear hG h64
  have C : CylAt w.heap.size (w.alloc (.cells #[.int .i64 b, .int .i64 r, .int .i64 s] 46)) b r s := ⟨by go_simp, by go_simp, by go_simp⟩
  have E : Ext w (w.alloc (.cells #[.int .i64 b, .int .i64 r, .int .i64 s] 46)) := extA
  go_enter Tryz.func6, Tryz.ntmps6
  go_wp2_with fail
  generalize (w.alloc (.cells #[.int .i64 b, .int .i64 r, .int .i64 s] 46)) = w0 at C E ⊢
  refine (HS.out _).mono ?_
  rintro e w1 ⟨rfl, hE⟩
  replace E := E.trans hE
  replace C := C.ext hE
  clear hE
  have C' := C
  obtain ⟨c0, c1, c2⟩ := C'
  have zc := cell_lt c0
  dsimp only at zc
  go_wp2_with fail
  clear c0 c1 c2 zc
  refine (X1.out _ E).mono ?_
  rintro e w2 ⟨rfl, hE⟩
  replace E := E.trans hE
  replace C := C.ext hE
  clear hE
  have C' := C
  obtain ⟨c0, c1, c2⟩ := C'
  have zc := cell_lt c0
  dsimp only at zc
  go_wp2_with fail
  clear c0 c1 c2 zc
  have A : EncAt w2.heap.size (w2.alloc (.cells #[txt p1, txt q1] 35)) p1 q1 := ⟨by go_simp, by go_simp, by go_simp, by go_simp⟩
  have EA : Ext w2 (w2.alloc (.cells #[txt p1, txt q1] 35)) := extA
  replace C := C.ext EA
  replace E := E.trans EA
  clear EA
  obtain ⟨kA, hkA⟩ : ∃ k, k = w2.heap.size := ⟨_, rfl⟩
  rw [← hkA] at A ⊢
  clear hkA
  generalize (w2.alloc (.cells #[txt p1, txt q1] 35)) = w3 at C A E ⊢
  refine (Y1.out _).mono ?_
  rintro e w4 ⟨rfl, hE⟩
  replace E := E.trans hE
  replace C := C.ext hE
  replace A := A.ext hE
  clear hE
  have C' := C
  obtain ⟨c0, c1, c2⟩ := C'
  have zc := cell_lt c0
  dsimp only at zc
  go_wp2_with fail
  clear c0 c1 c2 zc
  have B : EncAt w4.heap.size (w4.alloc (.cells #[txt p1, txt q1] 35)) p1 q1 := ⟨by go_simp, by go_simp, by go_simp, by go_simp⟩
  have EA : Ext w4 (w4.alloc (.cells #[txt p1, txt q1] 35)) := extA
  replace C := C.ext EA
  replace A := A.ext EA
  replace E := E.trans EA
  clear EA
  obtain ⟨kB, hkB⟩ : ∃ k, k = w4.heap.size := ⟨_, rfl⟩
  rw [← hkB] at B ⊢
  clear hkB
  generalize (w4.alloc (.cells #[txt p1, txt q1] 35)) = w5 at C A B E ⊢
  refine (HS.out _).mono ?_
  rintro e w6 ⟨rfl, hE⟩
  replace E := E.trans hE
  replace C := C.ext hE
  replace A := A.ext hE
  replace B := B.ext hE
  clear hE
  have C' := C
  obtain ⟨c0, c1, c2⟩ := C'
  have zc := cell_lt c0
  dsimp only at zc
  go_wp2_with fail
  clear c0 c1 c2 zc
  refine (X2.out _ E).mono ?_
  rintro e w7 ⟨rfl, hE⟩
  replace E := E.trans hE
  replace C := C.ext hE
  replace A := A.ext hE
  replace B := B.ext hE
  clear hE
  have C' := C
  obtain ⟨c0, c1, c2⟩ := C'
  have zc := cell_lt c0
  dsimp only at zc
  go_wp2_with fail
  clear c0 c1 c2 zc
  have D : EncAt w7.heap.size (w7.alloc (.cells #[txt p2, txt q2] 35)) p2 q2 := ⟨by go_simp, by go_simp, by go_simp, by go_simp⟩
  have EA : Ext w7 (w7.alloc (.cells #[txt p2, txt q2] 35)) := extA
  replace C := C.ext EA
  replace A := A.ext EA
  replace B := B.ext EA
  replace E := E.trans EA
  clear EA
  obtain ⟨kD, hkD⟩ : ∃ k, k = w7.heap.size := ⟨_, rfl⟩
  rw [← hkD] at D ⊢
  clear hkD
  generalize (w7.alloc (.cells #[txt p2, txt q2] 35)) = w8 at C A B D E ⊢
  refine (Y2.out _).mono ?_
  rintro e w9 ⟨rfl, hE⟩
  replace E := E.trans hE
  replace C := C.ext hE
  replace A := A.ext hE
  replace B := B.ext hE
  replace D := D.ext hE
  clear hE
  have C' := C
  obtain ⟨c0, c1, c2⟩ := C'
  have zc := cell_lt c0
  dsimp only at zc
  go_wp2_with fail
  clear c0 c1 c2 zc
  have F : EncAt w9.heap.size (w9.alloc (.cells #[txt p2, txt q2] 35)) p2 q2 := ⟨by go_simp, by go_simp, by go_simp, by go_simp⟩
  have EA : Ext w9 (w9.alloc (.cells #[txt p2, txt q2] 35)) := extA
  replace C := C.ext EA
  replace A := A.ext EA
  replace B := B.ext EA
  replace D := D.ext EA
  replace E := E.trans EA
  clear EA
  obtain ⟨kF, hkF⟩ : ∃ k, k = w9.heap.size := ⟨_, rfl⟩
  rw [← hkF] at F ⊢
  clear hkF
  generalize (w9.alloc (.cells #[txt p2, txt q2] 35)) = w10 at C A B D F E ⊢
  refine (HA.out _ E).mono ?_
  rintro e w11 ⟨rfl, hE⟩
  replace E := E.trans hE
  replace C := C.ext hE
  replace A := A.ext hE
  replace B := B.ext hE
  replace D := D.ext hE
  replace F := F.ext hE
  clear hE
  obtain ⟨A0, A1, A2, A3⟩ := A
  have zA := cell_lt A0
  dsimp only at zA
  obtain ⟨B0, B1, B2, B3⟩ := B
  have zB := cell_lt B0
  dsimp only at zB
  obtain ⟨D0, D1, D2, D3⟩ := D
  have zD := cell_lt D0
  dsimp only at zD
  obtain ⟨F0, F1, F2, F3⟩ := F
  have zF := cell_lt F0
  dsimp only at zF
  obtain ⟨c0, c1, c2⟩ := C
  have zc := cell_lt c0
  dsimp only at zc
  go_wp2
  go_ret
  exact ⟨rfl, E⟩
end Go.Proofs.YtlnonmmaknhppaaGreatDoor
