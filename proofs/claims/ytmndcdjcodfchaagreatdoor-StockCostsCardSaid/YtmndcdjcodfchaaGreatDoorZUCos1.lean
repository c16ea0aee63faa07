/- Steps of the proof: UOpen, UGiv2, ULCos. No conditions. -/
import Derived.ProofKit
import Derived.OpenShut
import Derived.Lib.SmallJoins
import Derived.Deep.Slices
import Derived.Deep.Strs
import Derived.Test.YtmndcdjcodfchaaGreatDoorCards
import Derived.Test.YtmndcdjcodfchaaGreatDoorTie
import Derived.WalkKit
import Derived.Deep.DeepHandedRow
import Derived.Lib.LaidTab
import Derived.LaidSub
import Derived.Stop.LaidErr
import Derived.MakeChecks
import Derived.Test.YtmndcdjcodfchaaGreatDoorZUB1
import Derived.Test.YtmndcdjcodfchaaGreatDoorZUB2
import Derived.Test.YtmndcdjcodfchaaGreatDoorZUB3
import Derived.Test.YtmndcdjcodfchaaGreatDoorZUB4
import Derived.Test.YtmndcdjcodfchaaGreatDoorZUB5
import Derived.Test.YtmndcdjcodfchaaGreatDoorZUB6
import Derived.Test.YtmndcdjcodfchaaGreatDoorZUB7
import Derived.Test.YtmndcdjcodfchaaGreatDoorZUB8
namespace Go.Proofs.YtmndcdjcodfchaaGreatDoor
open Go.RowKit Go.ChangeShapes Go.WideShapes Go.Joins Go.Deep
theorem laidOut : laidOutB Tryz.prog = true := by kernel_rfl
theorem cellsOfInt : Tryz.prog.cellsOf 3 = 1 := by kernel_rfl
theorem cellsOfSli : Tryz.prog.cellsOf 23 = 1 := by kernel_rfl
theorem cellsOfPk : Tryz.prog.cellsOf 62 = 3 := by kernel_rfl
theorem list3 {α : Type} {l : List α} (h : l.length = 3) : ∃ a b c, l = [a, b, c] := by
  match l, h with
  | [a, b, c], _ => exact ⟨a, b, c, rfl⟩
section
variable {H : Type} {enc : TypeId × Value → H} {w : World} {base : Nat} {spare : Nat → Bool} {held : Bool}
theorem open_cellsI {a : Addr} {len : Nat} (h : ∀ i, i < len → ∃ cs' n x, w.cells? base (a.add (i * 1)) 1 = some cs' ∧ DataW.trod enc Tryz.prog w base spare held n 3 cs' = some x) : ∃ l : List Int, l.length = len ∧ CellsI w (some a) l := by
  have key : ∀ i, i < len → ∃ y : Int, w.cell? (a.add (i * 1)) = some (.int .i64 y) := fun i hi => by
    obtain ⟨cs', n, x, h1, h2⟩ := h i hi
    obtain ⟨y, rfl, _, _⟩ := DataW.trod_int Tryz.underlying3 h2
    obtain ⟨_, _, hc⟩ := World.cells?_some h1
    have c0 := hc 0 (by omega)
    refine ⟨y, ?_⟩
    have e : (a.add (i * 1)).add 0 = a.add (i * 1) := by simp [Addr.add]
    rw [e] at c0
    exact c0
  obtain ⟨f, hf⟩ := choose_lt (α := Int) key
  refine ⟨(List.range len).map f, by simp, fun i hi => ?_⟩
  have hi' : i < len := by simpa using hi
  have h1 := hf i hi'
  have hp : ((List.range len).map f).getD i 0 = f i := by simp [List.getD, hi']
  rw [hp]
  obtain ⟨b, off, spot⟩ := a
  have hs : spot = none := by
    have h0 := World.cell?_spot (hf 0 (by omega))
    simpa [Addr.add] using h0
  subst hs
  rw [Addr.add_lit, Nat.mul_one] at h1
  exact ⟨b, off, rfl, h1⟩
theorem open_sli {fuel : Nat} {v : Value} {x : DataW H × List MemPlace} (hf : DataW.trod enc Tryz.prog w base spare held fuel 23 [v] = some x) : ∃ l : List Int, SliceI w v l := by
  rcases open_slice Tryz.underlying23 hf with ⟨h1, _⟩ | ⟨a, len, cap, m, n, D, Pl, h1, hb, hl, hm, hmm, _, hx⟩
  · simp at h1
    exact ⟨[], none, 0, h1, fun i hi => by simp at hi, by simp, by simp⟩
  · simp at h1
    rw [cellsOfInt] at hx
    have hlm : len ≤ m := by rw [hmm]; split <;> omega
    obtain ⟨l, hll, hc⟩ := open_cellsI (enc := enc) (spare := spare) (held := held) (w := w) (base := base) (a := a) (len := len) (fun i hi => by
      obtain ⟨cs', h2, h3⟩ := hx i (by omega)
      exact ⟨cs', n, _, h2, h3⟩)
    exact ⟨l, some a, cap, by rw [h1, hll], hc, by rw [hll]; exact hl, hm⟩
set_option maxRecDepth 100000 in
theorem open_ints {r : Reach} {b0 : Nat} {v : Value} {d : DataW H} {p : List MemPlace} (hv : Value.okWide Tryz.prog w r b0 23 v) (h : DataW.Trod enc Tryz.prog w base spare held 23 v d p) : ∃ l : List Int, SliceI w v l := by
  have key : v.cells.toList = [v] := by
    simp only [Value.okWide, Tryz.underlying23] at hv
    cases v <;> first | rfl | (simp [Cell.okWide, Cell.ok, Tryz.underlying23] at hv)
  obtain ⟨fuel, hf⟩ := h
  rw [key] at hf
  exact open_sli hf
theorem open_pkg {fuel : Nat} {cs : List Value} {x : DataW H × List MemPlace} (h : DataW.trod enc Tryz.prog w base spare held fuel 62 cs = some x) : ∃ (v : Value) (p : Pk), cs = [v, .int .i64 p.price, .int .i64 p.most] ∧ SliceI w v p.parts := by
  obtain ⟨y0, y1, y2, n, _, hl, h0, h1, h2⟩ := trod_struct3 Tryz.underlying62 h
  rw [cellsOfPk] at hl
  obtain ⟨a, b, c, rfl⟩ := list3 hl
  rw [cellsOfSli] at h0
  rw [cellsOfInt] at h1
  rw [cellsOfInt] at h2
  obtain ⟨i, e1, _, _⟩ := DataW.trod_int Tryz.underlying3 h1
  obtain ⟨j, e2, _, _⟩ := DataW.trod_int Tryz.underlying3 h2
  obtain ⟨l, hv⟩ := open_sli (v := a) (by simpa using h0)
  simp at e1 e2
  subst e1; subst e2
  exact ⟨a, ⟨l, i, j⟩, rfl, hv⟩
theorem open_pkgs {a : Addr} {len : Nat} (h : ∀ i, i < len → ∃ cs' n x, w.cells? base (a.add (i * 3)) 3 = some cs' ∧ DataW.trod enc Tryz.prog w base spare held n 62 cs' = some x) : ∃ l : List Pk, l.length = len ∧ PkG w (some a) l := by
  have key : ∀ i, i < len → ∃ y : Value × Pk, w.cell? (a.add (i * 3)) = some y.1 ∧ SliceI w y.1 y.2.parts ∧ w.cell? ((a.add (i * 3)).add 1) = some (.int .i64 y.2.price) ∧ w.cell? ((a.add (i * 3)).add 2) = some (.int .i64 y.2.most) := fun i hi => by
    obtain ⟨cs', n, x, h1, h2⟩ := h i hi
    obtain ⟨v, y, rfl, hv⟩ := open_pkg h2
    obtain ⟨_, _, hc⟩ := World.cells?_some h1
    have c0 := hc 0 (by omega)
    have c1 := hc 1 (by omega)
    have c2 := hc 2 (by omega)
    refine ⟨(v, y), ?_, hv, c1, c2⟩
    have e : (a.add (i * 3)).add 0 = a.add (i * 3) := by simp [Addr.add]
    rw [e] at c0
    exact c0
  haveI : Inhabited (Value × Pk) := ⟨(undef, pk0)⟩
  obtain ⟨f, hf⟩ := choose_lt (α := Value × Pk) key
  have hs : 0 < len → a.spot = none := fun h0 => by
    have h0 := World.cell?_spot (hf 0 h0).1
    simpa [Addr.add] using h0
  refine ⟨(List.range len).map fun i => (f i).2, by simp, fun i hi => ?_⟩
  have hi' : i < len := by simpa using hi
  obtain ⟨h1, h2, h3, h4⟩ := hf i hi'
  have hp : ((List.range len).map fun i => (f i).2).getD i pk0 = (f i).2 := by simp [List.getD, hi']
  rw [hp]
  obtain ⟨b, off, spot⟩ := a
  have hs := hs (by omega)
  dsimp only at hs
  subst hs
  rw [Addr.add_lit] at h1 h3 h4
  rw [Addr.add_lit] at h3 h4
  exact ⟨b, off, _, rfl, h1, h2, h3, h4⟩
set_option maxRecDepth 100000 in
theorem open_task {r : Reach} {b0 : Nat} {v : Value} {d : DataW H} {p : List MemPlace} (hv : Value.okWide Tryz.prog w r b0 25 v) (h : DataW.Trod enc Tryz.prog w base spare held 25 v d p) :
    ∃ pks need pa pc na nc, v = taskV pks need pa pc na nc ∧ TaskG w pks need pa pc na nc := by
  obtain ⟨c0, c1, y0, y1, n, rfl, _, _, h0, h1⟩ := open_agg2 Tryz.underlying25 (by kernel_rfl) (by kernel_rfl) hv h
  obtain ⟨need, na, nc, rfl, e2, e3, e4⟩ := open_sli h1
  rcases open_slice Tryz.underlying22 h0 with ⟨h1, _⟩ | ⟨a, len, cap, m, n, D, Pl, h1, hb, hl, hm, hmm, _, hx⟩
  · simp at h1
    subst h1
    exact ⟨[], need, none, 0, na, nc, rfl, fun i hi => by simp at hi, e2, by simp, by simp, e3, e4⟩
  · simp at h1
    rw [cellsOfPk] at hx
    have hlm : len ≤ m := by rw [hmm]; split <;> omega
    obtain ⟨l, hll, hc⟩ := open_pkgs (enc := enc) (spare := spare) (held := held) (w := w) (base := base) (a := a) (len := len) (fun i hi => by
      obtain ⟨cs', h2, h3⟩ := hx i (by omega)
      exact ⟨cs', n, _, h2, h3⟩)
    subst h1
    exact ⟨l, need, some a, cap, na, nc, by unfold taskV; rw [hll], hc, e2, by rw [hll]; exact hl, hm, e3, e4⟩
end
end Go.Proofs.YtmndcdjcodfchaaGreatDoor
namespace Go.Proofs.YtmndcdjcodfchaaGreatDoor
open Go.ChangeShapes Go.WideShapes Go.ChangeAt Go.RowKit
theorem own : ownKnob Tryz.prog.godebug = none := by kernel_rfl
theorem gTab : Tryz.prog.globalNamed "internal/strconv.uint64pow10" = some 1 := by kernel_rfl
theorem gTabT : (Tryz.prog.globals[1]?).map (·.type) = some 208 := by kernel_rfl
theorem cellsTab : Tryz.prog.cellsOf 208 = 20 := by kernel_rfl
theorem cellsU64 : Tryz.prog.cellsOf 139 = 1 := by kernel_rfl
theorem gRng : Tryz.prog.globalNamed "strconv.ErrRange" = some 5 := by kernel_rfl
theorem gRngT : (Tryz.prog.globals[5]?).map (·.type) = some 175 := by kernel_rfl
theorem gSyn : Tryz.prog.globalNamed "strconv.ErrSyntax" = some 4 := by kernel_rfl
theorem gSynT : (Tryz.prog.globals[4]?).map (·.type) = some 175 := by kernel_rfl
theorem starE : "*" ++ "errors.errorString" = "*errors.errorString" := by decide
theorem rowE (u : TypeId) (h : Tryz.prog.typeName? 3 u = some "*errors.errorString") : u = 243 :=
  typeName_ptr_named (nm := "errors.errorString") (by rw [starE]; kernel_rfl) (by kernel_rfl) (by decide) u (by rw [starE]; exact h)
theorem cellsErr : Tryz.prog.cellsOf 245 = 1 := by kernel_rfl
theorem cellsStr : Tryz.prog.cellsOf 9 = 1 := by kernel_rfl
theorem glob_of {W : World} (hs : W.ShapedOpen Tryz.prog) (hL : laidMetH Tryz.prog Rows.stockCostsRow.laid W) : Glob W := by
  have hP : laidMet Tryz.prog Rows.stockCostsRow.laid W := by
    rw [← MakeChecks.laidMetH_plain _ _ _ (by kernel_rfl)]; exact hL
  have hP2 := hP.tail.tail
  have hP4 := hP2.tail.tail
  have hP5 := hP4.tail
  obtain ⟨a0, _, h0, _⟩ := laid_sentinel hP4 gRng gRngT Tryz.underlying175 rowE Tryz.underlying243 Tryz.underlying245 rfl rfl Tryz.underlying9 cellsErr cellsStr
  obtain ⟨a1, _, h1, _⟩ := laid_sentinel hP5 gSyn gSynT Tryz.underlying175 rowE Tryz.underlying243 Tryz.underlying245 rfl rfl Tryz.underlying9 cellsErr cellsStr
  exact ⟨cell_of_shapedOpen_int (zero := #[.int .i64 0]) (t := 3) hs (of_decide_eq_true (by kernel_rfl)) (by kernel_rfl) rfl (by kernel_rfl) (by kernel_rfl) Tryz.underlying3,
    Lib.tabIs_of_head gTab gTabT Tryz.underlying208 Tryz.underlying139 cellsU64 cellsTab hP2, ⟨_, _, h1⟩, ⟨_, _, h0⟩⟩
def flatD : Nat → DataW Unit → List Value
  | _ + 1, .lit (.int k z) => [.int k z]
  | n + 1, .agg ds => ds.flatMap (flatD n)
  | _, _ => []
def putC (cs : List Value) : Obj → Obj
  | .cells _ t frozen => .cells ⟨cs⟩ t frozen
  | o => o
noncomputable def lowB : Nat := (World.holding Tryz.prog default ⟨#[], #[], []⟩).heap.size
def rngS : ByteArray := ⟨#[118, 97, 108, 117, 101, 32, 111, 117, 116, 32, 111, 102, 32, 114, 97, 110, 103, 101]⟩
def synS : ByteArray := ⟨#[105, 110, 118, 97, 108, 105, 100, 32, 115, 121, 110, 116, 97, 120]⟩
noncomputable def laidWorld (os : Os) : World :=
  let w0 := World.holding Tryz.prog os ⟨#[.cells #[.string rngS] 245, .cells #[.string synS] 245], #[], []⟩
  { w0 with heap := (((((((w0.heap.modify 6 (putC (flatD 3 Rows.laid_math_bits_deBruijn32tab))).modify 7 (putC (flatD 3 Rows.laid_math_bits_deBruijn64tab))).modify
      1 (putC (flatD 3 Rows.laid_internal_strconv_uint64pow10))).modify 3 (putC (flatD 3 Rows.laid_unicode_utf8_acceptRanges))).modify
      5 (putC [.iface 243 (.pointer (some ⟨lowB, 0, none⟩))])).modify 4 (putC [.iface 243 (.pointer (some ⟨lowB + 1, 0, none⟩))])).modify
      2 (putC (flatD 3 Rows.laid_unicode_utf8_first))) }
theorem laid_met (os : Os) (args : Array Value) : laidMet Tryz.prog Rows.stockCostsRow.laid ((laidWorld os).forCall (fun _ _ => 0) ⟨#[], args, []⟩).memory :=
  laidMet_of_run' 8 (by kernel_rfl) (by kernel_rfl)
end Go.Proofs.YtmndcdjcodfchaaGreatDoor
namespace Go.Proofs.YtmndcdjcodfchaaGreatDoor
open Go.RowKit
set_option maxHeartbeats 8000000 in
set_option maxRecDepth 100000 in
theorem lawCosts_any {pks : List Pk} {need order : List Int} {pa : Option Addr} {pc : Nat} {na : Option Addr} {nc : Nat} {oa : Option Addr} {oc : Nat} {w : World} (ht : TaskG w pks need pa pc na nc) (ho : CellsI w oa order) (hoc : order.length ≤ oc) (hom : oc ≤ maxLen) (hGl : Glob w) :
    Calls Tryz.prog 5 #[taskV pks need pa pc na nc, .slice oa order.length oc] w fun e w' => e = .returned (.bool true) ∧ Ext w w' := by
  have hol : order.length ≤ maxLen := Nat.le_trans hoc hom
  clear hoc hom
  have HSM := Lib.hid (fun W (hW : Ext w W) => small_any (ht.ext hW))
  have HAW := Lib.hid (fun W (hW : Ext w W) => awake_any W (hGl.ext hW))
  have HOF := Lib.hid (fun W (hW : Ext w W) h => Of_any (ht.ext hW) h)
  have HC1 := Lib.hid (fun W (hW : Ext w W) => Cost_any (oc := oc) (ht.ext hW) (ho.ext hW) hol)
  have HC2 := Lib.hid (fun W (hW : Ext w W) pa' pc' na' nc' (h : TaskG W pks need pa' pc' na' nc') => rCost_any (oc := oc) h (ho.ext hW) hol)
  have HR1 := Lib.hid (fun W (hW : Ext w W) => Rest_any (oc := oc) (ht.ext hW) (ho.ext hW) hol)
  have HR2 := Lib.hid (fun W (hW : Ext w W) pa' pc' na' nc' (h : TaskG W pks need pa' pc' na' nc') => rRest_any (oc := oc) h (ho.ext hW) hol)
  have HK1 := Lib.hid (fun W (hW : Ext w W) => Check_any (ht.ext hW))
  have HK2 := Lib.hid (fun pa' pc' na' nc' W (h : TaskG W pks need pa' pc' na' nc') => rCheck_any h)
  have HV1 := Lib.hid (fun W (hW : Ext w W) => Verify_any (oc := oc) (ht.ext hW) (ho.ext hW) hol)
  have HV2 := Lib.hid (fun W (hW : Ext w W) pa' pc' na' nc' (h : TaskG W pks need pa' pc' na' nc') => rVerify_any (oc := oc) h (ho.ext hW) hol)
  have HEQ : Hid (∀ (l : List Int) (a a' : Option Addr) (cap cap' : Nat) W, l.length ≤ maxLen → CellsI W a l → CellsI W a' l → Calls Tryz.prog 15 #[.slice a l.length cap, .slice a' l.length cap'] W fun e w' => e = .returned (.bool true) ∧ Ext W w') := fun l a a' cap cap' W h h1 h2 => by
    have := EqualI_any l l a a' cap cap' W h h1 h2
    rw [decide_eq_true rfl] at this
    exact this
  have hsm : smallB pks need = true → pks.length ≤ 100 := fun h => (smallB_of h).1
  unfold maxLen at hol
  unfold TaskP at HOF
  unfold SliceE at HR1 HR2
  unfold taskV at HSM HOF HC1 HC2 HR1 HR2 HK1 HK2 HV1 HV2 ⊢
  obtain ⟨N, hN⟩ : ∃ N, N = pks.length := ⟨_, rfl⟩
  obtain ⟨K, hK⟩ : ∃ K, K = need.length := ⟨_, rfl⟩
  obtain ⟨M, hM⟩ : ∃ M, M = order.length := ⟨_, rfl⟩
  rw [← hN, ← hK] at HSM HOF HK1 HK2
  rw [← hN, ← hK, ← hM] at HC1 HC2 HR1 HR2 HV1 HV2
  rw [← hN, ← hK, ← hM]
  rw [← hM] at hol
  rw [← hN] at hsm
  generalize smallB pks need = sm at HSM hsm
  generalize costR pks need order = cr at HC1 HC2
  generalize givenS pks need order = gr at HC1 HC2
  generalize verifyS pks need order = vr at HR1 HR2 HV1 HV2
  generalize restL pks need order = rl at HR1 HR2
  generalize checkS pks need = kr at HK1 HK2
  clear ht ho hGl hN hK hM
  have E0 : Ext w (w.alloc (.cells #[.slice pa N pc, .slice na K nc] 25)) := (Ext.refl _).alloc _
  have y1 : (w.alloc (.cells #[.slice pa N pc, .slice na K nc] 25)).cell? ⟨w.heap.size, 0, none⟩ = some (.slice pa N pc) := by go_simp
  have y2 : (w.alloc (.cells #[.slice pa N pc, .slice na K nc] 25)).cell? ⟨w.heap.size, 1, none⟩ = some (.slice na K nc) := by go_simp
  go_enter Tryz.func5, Tryz.ntmps5
  go_wp2_with fail
  refine (HSM.out _ E0).mono ?_
  rintro e w1 ⟨rfl, hE⟩
  have E1 := E0.trans hE
  have y1 := hE.cell y1
  have y2 := hE.cell y2
  have z := cell_lt y1
  dsimp only at z
  clear hE E0 HSM
  cases sm
  case false =>
    clear hsm
    go_wp2_with fail
    refine (HAW.out _ E1).mono ?_
    rintro e w2 ⟨rfl, hE⟩
    go_wp2
    go_ret
    exact ⟨rfl, E1.trans hE⟩
  have hN1 := hsm rfl
  clear hsm
  by_cases hM1 : 100 < M
  · have hM2 : (100 : Int) < (M : Int) := by omega
    go_wp2_with fail
    refine (HAW.out _ E1).mono ?_
    rintro e w2 ⟨rfl, hE⟩
    go_wp2
    go_ret
    exact ⟨rfl, E1.trans hE⟩
  have hM2 : ¬ (100 : Int) < (M : Int) := by omega
  go_wp2_with fail
  refine (HC1.out _ E1).mono ?_
  rintro e w2 ⟨rfl, hE⟩
  have E2 := E1.trans hE
  have y1 := hE.cell y1
  have y2 := hE.cell y2
  have z := cell_lt y1
  dsimp only at z
  clear hE E1 HC1
  go_wp2_with fail
  refine (HOF.out _ E2 hN1).mono ?_
  rintro e w3 ⟨pa1, pc1, na1, nc1, rfl, hT, hE⟩
  have E3 := E2.trans hE
  have y1 := hE.cell y1
  have y2 := hE.cell y2
  have z := cell_lt y1
  dsimp only at z
  have HX := Lib.hid (HC2.out _ E3 _ _ _ _ hT)
  clear hE E2 hT HC2
  go_wp2_with fail
  refine HX.out.mono ?_
  rintro e w4 ⟨rfl, hE⟩
  have E4 := E3.trans hE
  have y1 := hE.cell y1
  have y2 := hE.cell y2
  have z := cell_lt y1
  dsimp only at z
  clear hE E3 HX
  go_wp2_with fail
  refine (HR1.out _ E4).mono ?_
  rintro e w5 ⟨ra, rc, rfl, hr, hrl, hrm, hE⟩
  have HRL := Lib.hid hr
  have E5 := E4.trans hE
  have y1 := hE.cell y1
  have y2 := hE.cell y2
  have z := cell_lt y1
  dsimp only at z
  clear hE E4 HR1 hr
  go_wp2_with fail
  refine (HOF.out _ E5 hN1).mono ?_
  rintro e w6 ⟨pa2, pc2, na2, nc2, rfl, hT, hE⟩
  have HRL := Lib.hid (HRL.out.ext hE)
  have E6 := E5.trans hE
  have y1 := hE.cell y1
  have y2 := hE.cell y2
  have z := cell_lt y1
  dsimp only at z
  have HX := Lib.hid (HR2.out _ E6 _ _ _ _ hT)
  clear hE E5 hT HR2
  go_wp2_with fail
  refine HX.out.mono ?_
  rintro e w7 ⟨sa, sc, rfl, hs, hsl, hsm, hE⟩
  have HRL := Lib.hid (HRL.out.ext hE)
  have HSL := Lib.hid hs
  have E7 := E6.trans hE
  have y1 := hE.cell y1
  have y2 := hE.cell y2
  clear hE E6 HX hs z
  go_wp2_with fail
  refine wp_region_heldE 99 (fun w' => w'.cell? ⟨w.heap.size, 0, none⟩ = some (.slice pa N pc) ∧ w'.cell? ⟨w.heap.size, 1, none⟩ = some (.slice na K nc)) (by kernel_rfl) ?_
  have ED : Ext w7 w7.drew := (Ext.refl _).drew
  have hS := And.intro (ED.cell y1) (ED.cell y2)
  have E8 := E7.trans ED
  have HRL := Lib.hid (HRL.out.ext ED)
  have HSL := Lib.hid (HSL.out.ext ED)
  clear y1 y2 E7 ED
  generalize w7.drew = w8 at hS E8 HRL HSL ⊢
  have s1 := hS.1
  have s2 := hS.2
  have z1 := cell_lt s1
  dsimp only at z1
  ((refine eTk 0 ?_); (refine eTk 2 ?_))
  (refine wpAnyE_one (i := 1) (o := ?_) ?_ (by kernel_rfl) (fun K hK => ?_); rotate_left; (focus ((simp only [List.getElem?_toArray, List.getElem?_cons_succ, List.getElem?_cons_zero]; exact rfl))); go_simp; go_at_call 23; refine (HK1.out _ E8).mono ?_; rintro e w9 ⟨rfl, hE⟩; go_wp2_with fail; refine hK.out _ _ ?_ (fun hHeld => ?_); rotate_left; clear hK K; (try simp only [Act.put, List.setIfInBounds_toArray, List.set_cons_zero, List.set_cons_succ]))
  rotate_left
  · exact ⟨hE.cell s1, hE.cell s2⟩
  have E9 := E8.trans hE
  have HRL := Lib.hid (HRL.out.ext hE)
  have HSL := Lib.hid (HSL.out.ext hE)
  have t1 := hE.cell s1
  have t2 := hE.cell s2
  clear hE E8 s1 s2 z1 hS hHeld HK1
  (refine wpAnyE_one (i := 3) (o := ?_) ?_ (by kernel_rfl) (fun K hK => ?_); rotate_left; (focus ((simp only [List.getElem?_toArray, List.getElem?_cons_succ, List.getElem?_cons_zero]; exact rfl))); go_simp; go_at_call 11; refine (HOF.out _ E9 hN1).mono ?_; rintro e wA ⟨pa3, pc3, na3, nc3, rfl, hT, hE⟩; go_wp2_with fail; refine hK.out _ _ ?_ (fun hHeld => ?_); rotate_left; clear hK K; (try simp only [Act.put, List.setIfInBounds_toArray, List.set_cons_zero, List.set_cons_succ]))
  rotate_left
  · exact ⟨hE.cell t1, hE.cell t2⟩
  have EA := E9.trans hE
  have HX := Lib.hid (HK2.out _ _ _ _ _ hT)
  have HRL := Lib.hid (HRL.out.ext hE)
  have HSL := Lib.hid (HSL.out.ext hE)
  have s1 := hE.cell t1
  have s2 := hE.cell t2
  clear hE E9 t1 t2 hHeld HK2 hT
  (refine wpAnyE_one (i := 4) (o := ?_) ?_ (by kernel_rfl) (fun K hK => ?_); rotate_left; (focus ((simp only [List.getElem?_toArray, List.getElem?_cons_succ, List.getElem?_cons_zero]; exact rfl))); go_simp; go_at_call 24; refine HX.out.mono ?_; rintro e wB ⟨rfl, hE⟩; go_wp2_with fail; refine hK.out _ _ ?_ (fun hHeld => ?_); rotate_left; clear hK K; (try simp only [Act.put, List.setIfInBounds_toArray, List.set_cons_zero, List.set_cons_succ]))
  rotate_left
  · exact ⟨hE.cell s1, hE.cell s2⟩
  have EB := EA.trans hE
  have HRL := Lib.hid (HRL.out.ext hE)
  have HSL := Lib.hid (HSL.out.ext hE)
  have t1 := hE.cell s1
  have t2 := hE.cell s2
  clear hE EA s1 s2 hHeld HX
  have hS := And.intro t1 t2
  ((refine ePu 5 ?_); (refine ePu 6 ?_); (refine ePu 7 ?_); (refine ePu 8 ?_); (refine ePu 9 ?_); (refine ePu 10 ?_); (refine ePu 11 ?_); (refine ePu 12 ?_); (refine ePu 13 ?_); (refine ePu 14 ?_); (refine ePu 15 ?_); (refine ePu 16 ?_); (refine ePu 17 ?_); (refine ePu 18 ?_))
  have HX := Lib.hid (HEQ.out rl ra sa rc sc wB (by omega) HRL.out HSL.out)
  (refine wpAnyE_one (i := 19) (o := ?_) ?_ (by kernel_rfl) (fun K hK => ?_); rotate_left; (focus ((simp only [List.getElem?_toArray, List.getElem?_cons_succ, List.getElem?_cons_zero]; exact rfl))); go_simp; go_at_call 15; refine HX.out.mono ?_; rintro e wC ⟨rfl, hE⟩; go_wp2_with fail; refine hK.out _ _ ?_ (fun hHeld => ?_); rotate_left; clear hK K; (try simp only [Act.put, List.setIfInBounds_toArray, List.set_cons_zero, List.set_cons_succ]))
  rotate_left
  · exact ⟨hE.cell t1, hE.cell t2⟩
  have EC := EB.trans hE
  have s1 := hE.cell t1
  have s2 := hE.cell t2
  clear hE EB t1 t2 hHeld HX HRL HSL HEQ hS
  have z1 := cell_lt s1
  dsimp only at z1
  have hS := And.intro s1 s2
  ((refine ePu 20 ?_); (refine ePu 21 ?_); (refine ePu 22 ?_); (refine ePu 23 ?_); (refine ePu 24 ?_); (refine ePu 25 ?_); (refine ePu 26 ?_))
  ((refine eTk 27 ?_); (refine eTk 28 ?_); (refine eTk 30 ?_); (refine eTk 32 ?_))
  (refine wpAnyE_one (i := 29) (o := ?_) ?_ (by kernel_rfl) (fun K hK => ?_); rotate_left; (focus ((simp only [List.getElem?_toArray, List.getElem?_cons_succ, List.getElem?_cons_zero]; exact rfl))); go_simp; go_at_call 25; refine (HV1.out _ EC).mono ?_; rintro e wD ⟨rfl, hE⟩; go_wp2_with fail; refine hK.out _ _ ?_ (fun hHeld => ?_); rotate_left; clear hK K; (try simp only [Act.put, List.setIfInBounds_toArray, List.set_cons_zero, List.set_cons_succ]))
  rotate_left
  · exact ⟨hE.cell s1, hE.cell s2⟩
  have ED := EC.trans hE
  have t1 := hE.cell s1
  have t2 := hE.cell s2
  clear hE EC s1 s2 hHeld HV1 hS z1
  (refine wpAnyE_one (i := 31) (o := ?_) ?_ (by kernel_rfl) (fun K hK => ?_); rotate_left; (focus ((simp only [List.getElem?_toArray, List.getElem?_cons_succ, List.getElem?_cons_zero]; exact rfl))); go_simp; go_at_call 11; refine (HOF.out _ ED hN1).mono ?_; rintro e wE ⟨pa4, pc4, na4, nc4, rfl, hT, hE⟩; go_wp2_with fail; refine hK.out _ _ ?_ (fun hHeld => ?_); rotate_left; clear hK K; (try simp only [Act.put, List.setIfInBounds_toArray, List.set_cons_zero, List.set_cons_succ]))
  rotate_left
  · exact ⟨hE.cell t1, hE.cell t2⟩
  have EE := ED.trans hE
  have HX := Lib.hid (HV2.out _ EE _ _ _ _ hT)
  have s1 := hE.cell t1
  have s2 := hE.cell t2
  clear hE ED t1 t2 hHeld HV2 hT
  (refine wpAnyE_one (i := 33) (o := ?_) ?_ (by kernel_rfl) (fun K hK => ?_); rotate_left; (focus ((simp only [List.getElem?_toArray, List.getElem?_cons_succ, List.getElem?_cons_zero]; exact rfl))); go_simp; go_at_call 26; refine HX.out.mono ?_; rintro e wF ⟨rfl, hE⟩; go_wp2_with fail; refine hK.out _ _ ?_ (fun hHeld => ?_); rotate_left; clear hK K; (try simp only [Act.put, List.setIfInBounds_toArray, List.set_cons_zero, List.set_cons_succ]))
  rotate_left
  · exact ⟨hE.cell s1, hE.cell s2⟩
  have EF := EE.trans hE
  have t1 := hE.cell s1
  have t2 := hE.cell s2
  clear hE EE s1 s2 hHeld HX
  have hS := And.intro t1 t2
  ((refine ePu 34 ?_); (refine ePu 35 ?_); (refine ePu 36 ?_))
  (refine wpAnyE_one (i := 37) (o := ?_) ?_ (by kernel_rfl) (fun K hK => ?_); rotate_left; (focus ((simp only [List.getElem?_toArray, List.getElem?_cons_succ, List.getElem?_cons_zero]; exact rfl))); go_simp; go_at_call 12; refine (HAW.out _ EF).mono ?_; rintro e wG ⟨rfl, hE⟩; go_wp2_with fail; refine hK.out _ _ ?_ (fun hHeld => ?_); rotate_left; clear hK K; (try simp only [Act.put, List.setIfInBounds_toArray, List.set_cons_zero, List.set_cons_succ]))
  rotate_left
  · exact ⟨hE.cell t1, hE.cell t2⟩
  have EG := EF.trans hE
  ((refine ePu 38 ?_); (refine ePu 39 ?_))
  refine wpAnyE_done (by kernel_rfl) ?_ _
  go_wp2
  go_ret
  exact ⟨rfl, EG⟩
end Go.Proofs.YtmndcdjcodfchaaGreatDoor
