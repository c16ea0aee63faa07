/- Steps of the proof: UOpen, UOpenL, UDearP, UDear, UGiv2, URf4. No conditions. -/
import Derived.ProofKit
import Derived.OpenShut
import Derived.Lib.SmallJoins
import Derived.Deep.Slices
import Derived.Deep.Strs
import Derived.SliceStrings
import Derived.Test.YtmndcdjcodfchaaGreatDoorCards
import Derived.Test.YtmndcdjcodfchaaGreatDoorTie
import Derived.WalkKit
import Derived.Deep.DeepHandedRow
import Derived.Lib.LaidTab
import Derived.LaidSub
import Derived.Stop.LaidErr
import Derived.MakeChecks
import Derived.Test.YtmndcdjcodfchaaGreatDoorZUB1
import Derived.Test.YtmndcdjcodfchaaGreatDoorZUB2
import Derived.Test.YtmndcdjcodfchaaGreatDoorZUB3
import Derived.Test.YtmndcdjcodfchaaGreatDoorZUB4
import Derived.Test.YtmndcdjcodfchaaGreatDoorZUB5
import Derived.Test.YtmndcdjcodfchaaGreatDoorZUB6
import Derived.Test.YtmndcdjcodfchaaGreatDoorZUB7
import Derived.Test.YtmndcdjcodfchaaGreatDoorZUB8
namespace Go.Proofs.YtmndcdjcodfchaaGreatDoor
open Go.RowKit Go.ChangeShapes Go.WideShapes Go.Joins Go.Deep
theorem laidOut : laidOutB Tryz.prog = true := by kernel_rfl
theorem cellsOfInt : Tryz.prog.cellsOf 3 = 1 := by kernel_rfl
theorem cellsOfSli : Tryz.prog.cellsOf 23 = 1 := by kernel_rfl
theorem cellsOfPk : Tryz.prog.cellsOf 62 = 3 := by kernel_rfl
theorem list3 {α : Type} {l : List α} (h : l.length = 3) : ∃ a b c, l = [a, b, c] := by
  match l, h with
  | [a, b, c], _ => exact ⟨a, b, c, rfl⟩
section
variable {H : Type} {enc : TypeId × Value → H} {w : World} {base : Nat} {spare : Nat → Bool} {held : Bool}
theorem open_cellsI {a : Addr} {len : Nat} (h : ∀ i, i < len → ∃ cs' n x, w.cells? base (a.add (i * 1)) 1 = some cs' ∧ DataW.trod enc Tryz.prog w base spare held n 3 cs' = some x) : ∃ l : List Int, l.length = len ∧ CellsI w (some a) l := by
  have key : ∀ i, i < len → ∃ y : Int, w.cell? (a.add (i * 1)) = some (.int .i64 y) := fun i hi => by
    obtain ⟨cs', n, x, h1, h2⟩ := h i hi
    obtain ⟨y, rfl, _, _⟩ := DataW.trod_int Tryz.underlying3 h2
    obtain ⟨_, _, hc⟩ := World.cells?_some h1
    have c0 := hc 0 (by omega)
    refine ⟨y, ?_⟩
    have e : (a.add (i * 1)).add 0 = a.add (i * 1) := by simp [Addr.add]
    rw [e] at c0
    exact c0
  obtain ⟨f, hf⟩ := choose_lt (α := Int) key
  refine ⟨(List.range len).map f, by simp, fun i hi => ?_⟩
  have hi' : i < len := by simpa using hi
  have h1 := hf i hi'
  have hp : ((List.range len).map f).getD i 0 = f i := by simp [List.getD, hi']
  rw [hp]
  obtain ⟨b, off, spot⟩ := a
  have hs : spot = none := by
    have h0 := World.cell?_spot (hf 0 (by omega))
    simpa [Addr.add] using h0
  subst hs
  rw [Addr.add_lit, Nat.mul_one] at h1
  exact ⟨b, off, rfl, h1⟩
theorem open_sli {fuel : Nat} {v : Value} {x : DataW H × List MemPlace} (hf : DataW.trod enc Tryz.prog w base spare held fuel 23 [v] = some x) : ∃ l : List Int, SliceI w v l := by
  rcases open_slice Tryz.underlying23 hf with ⟨h1, _⟩ | ⟨a, len, cap, m, n, D, Pl, h1, hb, hl, hm, hmm, _, hx⟩
  · simp at h1
    exact ⟨[], none, 0, h1, fun i hi => by simp at hi, by simp, by simp⟩
  · simp at h1
    rw [cellsOfInt] at hx
    have hlm : len ≤ m := by rw [hmm]; split <;> omega
    obtain ⟨l, hll, hc⟩ := open_cellsI (enc := enc) (spare := spare) (held := held) (w := w) (base := base) (a := a) (len := len) (fun i hi => by
      obtain ⟨cs', h2, h3⟩ := hx i (by omega)
      exact ⟨cs', n, _, h2, h3⟩)
    exact ⟨l, some a, cap, by rw [h1, hll], hc, by rw [hll]; exact hl, hm⟩
theorem open_pkg {fuel : Nat} {cs : List Value} {x : DataW H × List MemPlace} (h : DataW.trod enc Tryz.prog w base spare held fuel 62 cs = some x) : ∃ (v : Value) (p : Pk), cs = [v, .int .i64 p.price, .int .i64 p.most] ∧ SliceI w v p.parts := by
  obtain ⟨y0, y1, y2, n, _, hl, h0, h1, h2⟩ := trod_struct3 Tryz.underlying62 h
  rw [cellsOfPk] at hl
  obtain ⟨a, b, c, rfl⟩ := list3 hl
  rw [cellsOfSli] at h0
  rw [cellsOfInt] at h1
  rw [cellsOfInt] at h2
  obtain ⟨i, e1, _, _⟩ := DataW.trod_int Tryz.underlying3 h1
  obtain ⟨j, e2, _, _⟩ := DataW.trod_int Tryz.underlying3 h2
  obtain ⟨l, hv⟩ := open_sli (v := a) (by simpa using h0)
  simp at e1 e2
  subst e1; subst e2
  exact ⟨a, ⟨l, i, j⟩, rfl, hv⟩
theorem open_pkgs {a : Addr} {len : Nat} (h : ∀ i, i < len → ∃ cs' n x, w.cells? base (a.add (i * 3)) 3 = some cs' ∧ DataW.trod enc Tryz.prog w base spare held n 62 cs' = some x) : ∃ l : List Pk, l.length = len ∧ PkG w (some a) l := by
  have key : ∀ i, i < len → ∃ y : Value × Pk, w.cell? (a.add (i * 3)) = some y.1 ∧ SliceI w y.1 y.2.parts ∧ w.cell? ((a.add (i * 3)).add 1) = some (.int .i64 y.2.price) ∧ w.cell? ((a.add (i * 3)).add 2) = some (.int .i64 y.2.most) := fun i hi => by
    obtain ⟨cs', n, x, h1, h2⟩ := h i hi
    obtain ⟨v, y, rfl, hv⟩ := open_pkg h2
    obtain ⟨_, _, hc⟩ := World.cells?_some h1
    have c0 := hc 0 (by omega)
    have c1 := hc 1 (by omega)
    have c2 := hc 2 (by omega)
    refine ⟨(v, y), ?_, hv, c1, c2⟩
    have e : (a.add (i * 3)).add 0 = a.add (i * 3) := by simp [Addr.add]
    rw [e] at c0
    exact c0
  haveI : Inhabited (Value × Pk) := ⟨(undef, pk0)⟩
  obtain ⟨f, hf⟩ := choose_lt (α := Value × Pk) key
  have hs : 0 < len → a.spot = none := fun h0 => by
    have h0 := World.cell?_spot (hf 0 h0).1
    simpa [Addr.add] using h0
  refine ⟨(List.range len).map fun i => (f i).2, by simp, fun i hi => ?_⟩
  have hi' : i < len := by simpa using hi
  obtain ⟨h1, h2, h3, h4⟩ := hf i hi'
  have hp : ((List.range len).map fun i => (f i).2).getD i pk0 = (f i).2 := by simp [List.getD, hi']
  rw [hp]
  obtain ⟨b, off, spot⟩ := a
  have hs := hs (by omega)
  dsimp only at hs
  subst hs
  rw [Addr.add_lit] at h1 h3 h4
  rw [Addr.add_lit] at h3 h4
  exact ⟨b, off, _, rfl, h1, h2, h3, h4⟩
set_option maxRecDepth 100000 in
theorem open_task {r : Reach} {b0 : Nat} {v : Value} {d : DataW H} {p : List MemPlace} (hv : Value.okWide Tryz.prog w r b0 25 v) (h : DataW.Trod enc Tryz.prog w base spare held 25 v d p) :
    ∃ pks need pa pc na nc, v = taskV pks need pa pc na nc ∧ TaskG w pks need pa pc na nc := by
  obtain ⟨c0, c1, y0, y1, n, rfl, _, _, h0, h1⟩ := open_agg2 Tryz.underlying25 (by kernel_rfl) (by kernel_rfl) hv h
  obtain ⟨need, na, nc, rfl, e2, e3, e4⟩ := open_sli h1
  rcases open_slice Tryz.underlying22 h0 with ⟨h1, _⟩ | ⟨a, len, cap, m, n, D, Pl, h1, hb, hl, hm, hmm, _, hx⟩
  · simp at h1
    subst h1
    exact ⟨[], need, none, 0, na, nc, rfl, fun i hi => by simp at hi, e2, by simp, by simp, e3, e4⟩
  · simp at h1
    rw [cellsOfPk] at hx
    have hlm : len ≤ m := by rw [hmm]; split <;> omega
    obtain ⟨l, hll, hc⟩ := open_pkgs (enc := enc) (spare := spare) (held := held) (w := w) (base := base) (a := a) (len := len) (fun i hi => by
      obtain ⟨cs', h2, h3⟩ := hx i (by omega)
      exact ⟨cs', n, _, h2, h3⟩)
    subst h1
    exact ⟨l, need, some a, cap, na, nc, by unfold taskV; rw [hll], hc, e2, by rw [hll]; exact hl, hm, e3, e4⟩
theorem cellsOfLev : Tryz.prog.cellsOf 69 = 3 := by kernel_rfl
end
end Go.Proofs.YtmndcdjcodfchaaGreatDoor
namespace Go.Proofs.YtmndcdjcodfchaaGreatDoor
open Go.RowKit Go.ChangeShapes Go.WideShapes Go.Joins Go.Deep
section
variable {H : Type} {enc : TypeId × Value → H} {w : World} {base : Nat} {spare : Nat → Bool} {held : Bool}
theorem open_lev {fuel : Nat} {cs : List Value} {x : DataW H × List MemPlace} (h : DataW.trod enc Tryz.prog w base spare held fuel 69 cs = some x) : ∃ p : Lv, cs = [.int .i64 p.has, .int .i64 p.least, .int .i64 p.lot] := by
  obtain ⟨y0, y1, y2, n, _, hl, h0, h1, h2⟩ := trod_struct3 Tryz.underlying69 h
  rw [cellsOfLev] at hl
  obtain ⟨a, b, c, rfl⟩ := list3 hl
  rw [cellsOfInt] at h0
  rw [cellsOfInt] at h1
  rw [cellsOfInt] at h2
  obtain ⟨i, e0, _, _⟩ := DataW.trod_int Tryz.underlying3 h0
  obtain ⟨j, e1, _, _⟩ := DataW.trod_int Tryz.underlying3 h1
  obtain ⟨k, e2, _, _⟩ := DataW.trod_int Tryz.underlying3 h2
  simp at e0 e1 e2
  subst e0; subst e1; subst e2
  exact ⟨⟨i, j, k⟩, rfl⟩
set_option maxRecDepth 100000 in
theorem open_levs {r : Reach} {b0 : Nat} {v : Value} {d : DataW H} {p : List MemPlace} (hv : Value.okWide Tryz.prog w r b0 64 v) (h : DataW.Trod enc Tryz.prog w base spare held 64 v d p) :
    ∃ (l : List Lv) (a : Option Addr) (cap : Nat), v = .slice a l.length cap ∧ LevAt w a l ∧ l.length ≤ maxLen := by
  have key : v.cells.toList = [v] := by
    simp only [Value.okWide, Tryz.underlying64] at hv
    cases v <;> first | rfl | (simp [Cell.okWide, Cell.ok, Tryz.underlying64] at hv)
  obtain ⟨fuel, hf⟩ := h
  rw [key] at hf
  rcases open_slice Tryz.underlying64 hf with ⟨h1, _⟩ | ⟨a, len, cap, m, n, D, Pl, h1, hb, hl, hm, hmm, _, hx⟩
  · simp at h1
    exact ⟨[], none, 0, h1, (fun i hi => by simp at hi), by simp⟩
  · simp at h1
    rw [cellsOfLev] at hx
    have hlm : len ≤ m := by rw [hmm]; split <;> omega
    have key2 : ∀ i, i < len → ∃ y : Lv, w.cell? (a.add (i * 3)) = some (.int .i64 y.has) ∧ w.cell? ((a.add (i * 3)).add 1) = some (.int .i64 y.least) ∧ w.cell? ((a.add (i * 3)).add 2) = some (.int .i64 y.lot) := fun i hi => by
      obtain ⟨cs', h2, h3⟩ := hx i (by omega)
      obtain ⟨y, rfl⟩ := open_lev h3
      obtain ⟨_, _, hc⟩ := World.cells?_some h2
      have c0 := hc 0 (by omega)
      have c1 := hc 1 (by omega)
      have c2 := hc 2 (by omega)
      refine ⟨y, ?_, c1, c2⟩
      have e : (a.add (i * 3)).add 0 = a.add (i * 3) := by simp [Addr.add]
      rw [e] at c0
      exact c0
    haveI : Inhabited Lv := ⟨lv0⟩
    obtain ⟨f, hf⟩ := choose_lt (α := Lv) key2
    refine ⟨(List.range len).map f, some a, cap, by rw [h1]; simp, fun i hi => ?_, by simp; omega⟩
    have hi' : i < len := by simpa using hi
    obtain ⟨h1, h3, h4⟩ := hf i hi'
    have hp : ((List.range len).map f).getD i lv0 = f i := by simp [List.getD, hi']
    rw [hp]
    obtain ⟨b, off, spot⟩ := a
    have hs : spot = none := by
      have h0 := World.cell?_spot (hf 0 (by omega)).1
      simpa [Addr.add] using h0
    subst hs
    rw [Addr.add_lit] at h1 h3 h4
    rw [Addr.add_lit] at h3 h4
    exact ⟨b, off, rfl, h1, h3, h4⟩
end
end Go.Proofs.YtmndcdjcodfchaaGreatDoor
namespace Go.Proofs.YtmndcdjcodfchaaGreatDoor
def partsB (a b : Pk) : Bool := (List.range b.parts.length).all fun k => decide (b.parts.getD k 0 ≤ a.parts.getD k 0)
def coversS (a b : Pk) : Bool := partsB a b && (decide (a.price ≤ b.price) && decide (b.most ≤ a.most))
def dearB (ps : List Pk) (i k : Nat) : Bool := decide (k ≠ i) && coversS (ps.getD k pk0) (ps.getD i pk0) && (decide (k < i) || !coversS (ps.getD i pk0) (ps.getD k pk0))
def dearS (ps : List Pk) (i : Nat) : Bool := (List.range ps.length).any (dearB ps i)
def dearT (ps : List Pk) (j : Nat) : List Int := ((List.range j).filter (dearS ps)).map fun (i : Nat) => (i : Int)
def dearL (pks : List Pk) (need : List Int) : List Int := if checkS pks need = 0 then dearT pks pks.length else []
theorem dearT_yes {ps : List Pk} {j : Nat} (h : dearS ps j = true) : dearT ps (j + 1) = dearT ps j ++ [(j : Int)] := by
  unfold dearT
  rw [List.range_succ, List.filter_append, List.map_append]
  congr 1
  rw [List.filter_cons, h]
  rfl
theorem dearT_no {ps : List Pk} {j : Nat} (h : dearS ps j = false) : dearT ps (j + 1) = dearT ps j := by
  unfold dearT
  rw [List.range_succ, List.filter_append, List.map_append]
  have : [j].filter (dearS ps) = [] := by rw [List.filter_cons, h]; rfl
  rw [this, List.map_nil, List.append_nil]
theorem dearT_len (ps : List Pk) (j : Nat) : (dearT ps j).length ≤ j := by
  unfold dearT
  rw [List.length_map]
  have := List.length_filter_le (dearS ps) (List.range j)
  rwa [List.length_range] at this
theorem dear_hit {ps : List Pk} {i k : Nat} (hk : k < ps.length) (h : dearB ps i k = true) : dearS ps i = true := List.any_eq_true.2 ⟨k, List.mem_range.2 hk, h⟩
theorem dear_end {ps : List Pk} {i : Nat} (h : ∀ k, k < ps.length → dearB ps i k = false) : dearS ps i = false := by
  unfold dearS
  rw [List.any_eq_false]
  intro k hk
  rw [h k (List.mem_range.1 hk)]; simp
theorem parts_hit {a b : Pk} {k : Nat} (hk : k < b.parts.length) (h : a.parts.getD k 0 < b.parts.getD k 0) : coversS a b = false := by
  have : partsB a b = false := by
    cases hp : partsB a b
    · rfl
    · unfold partsB at hp
      rw [List.all_eq_true] at hp
      have := hp k (List.mem_range.2 hk)
      simp only [decide_eq_true_eq] at this
      omega
  unfold coversS
  rw [this, Bool.false_and]
theorem parts_end {a b : Pk} (h : ∀ k, k < b.parts.length → b.parts.getD k 0 ≤ a.parts.getD k 0) : coversS a b = (decide (a.price ≤ b.price) && decide (b.most ≤ a.most)) := by
  have : partsB a b = true := by
    unfold partsB
    rw [List.all_eq_true]
    intro k hk
    exact decide_eq_true (h k (List.mem_range.1 hk))
  unfold coversS
  rw [this, Bool.true_and]
end Go.Proofs.YtmndcdjcodfchaaGreatDoor
namespace Go.Proofs.YtmndcdjcodfchaaGreatDoor
open Go.RowKit
set_option maxHeartbeats 4000000 in
theorem covers_any (a b : Pk) (K : Nat) (aa ba : Option Addr) (ac bc : Nat) (w : World) (ha : a.parts.length = K) (hb : b.parts.length = K) (hK : K ≤ 16) (hc : CellsI w aa a.parts) (hd : CellsI w ba b.parts) :
    Calls Tryz.prog 69 #[.agg #[.slice aa K ac, .int .i64 a.price, .int .i64 a.most], .agg #[.slice ba K bc, .int .i64 b.price, .int .i64 b.most]] w fun e w' => e = .returned (.bool (coversS a b)) ∧ Ext w w' := by
  have HC := Lib.hid hc
  have HD := Lib.hid hd
  have HA := Lib.hid ha
  have HB := Lib.hid hb
  obtain ⟨r, hr⟩ : ∃ r, coversS a b = r := ⟨_, rfl⟩
  rw [hr]
  have HH : Hid (∀ k, k < K → a.parts.getD k 0 < b.parts.getD k 0 → r = false) := fun k hk h => by rw [← hr]; exact parts_hit (by omega) h
  have HE : Hid ((∀ k, k < K → b.parts.getD k 0 ≤ a.parts.getD k 0) → r = (decide (a.price ≤ b.price) && decide (b.most ≤ a.most))) := fun h => by rw [← hr]; exact parts_end (by rw [hb]; exact h)
  have E0 : Ext w ((w.alloc (.cells #[.slice aa K ac, .int .i64 a.price, .int .i64 a.most] 62)).alloc (.cells #[.slice ba K bc, .int .i64 b.price, .int .i64 b.most] 62)) := extA
  have x0 : ((w.alloc (.cells #[.slice aa K ac, .int .i64 a.price, .int .i64 a.most] 62)).alloc (.cells #[.slice ba K bc, .int .i64 b.price, .int .i64 b.most] 62)).cell? ⟨w.heap.size, 0, none⟩ = some (.slice aa K ac) := by go_simp
  have x1 : ((w.alloc (.cells #[.slice aa K ac, .int .i64 a.price, .int .i64 a.most] 62)).alloc (.cells #[.slice ba K bc, .int .i64 b.price, .int .i64 b.most] 62)).cell? ⟨w.heap.size, 1, none⟩ = some (.int .i64 a.price) := by go_simp
  have x2 : ((w.alloc (.cells #[.slice aa K ac, .int .i64 a.price, .int .i64 a.most] 62)).alloc (.cells #[.slice ba K bc, .int .i64 b.price, .int .i64 b.most] 62)).cell? ⟨w.heap.size, 2, none⟩ = some (.int .i64 a.most) := by go_simp
  have y0 : ((w.alloc (.cells #[.slice aa K ac, .int .i64 a.price, .int .i64 a.most] 62)).alloc (.cells #[.slice ba K bc, .int .i64 b.price, .int .i64 b.most] 62)).cell? ⟨w.heap.size + 1, 0, none⟩ = some (.slice ba K bc) := by go_simp
  have y1 : ((w.alloc (.cells #[.slice aa K ac, .int .i64 a.price, .int .i64 a.most] 62)).alloc (.cells #[.slice ba K bc, .int .i64 b.price, .int .i64 b.most] 62)).cell? ⟨w.heap.size + 1, 1, none⟩ = some (.int .i64 b.price) := by go_simp
  have y2 : ((w.alloc (.cells #[.slice aa K ac, .int .i64 a.price, .int .i64 a.most] 62)).alloc (.cells #[.slice ba K bc, .int .i64 b.price, .int .i64 b.most] 62)).cell? ⟨w.heap.size + 1, 2, none⟩ = some (.int .i64 b.most) := by go_simp
  clear hc hd ha hb hr
  go_enter Tryz.func69, Tryz.ntmps69
  go_wp2
  generalize ((w.alloc (.cells #[.slice aa K ac, .int .i64 a.price, .int .i64 a.most] 62)).alloc (.cells #[.slice ba K bc, .int .i64 b.price, .int .i64 b.most] 62)) = W at E0 x0 x1 x2 y0 y1 y2 ⊢
  go_loopw [10] (fun i wr => ∃ k : Nat, k ≤ K ∧ i = .int .i64 k ∧ Hid (∀ j, j < k → b.parts.getD j 0 ≤ a.parts.getD j 0) ∧ Ext W wr) (fun i _ => K - (intOf i).toNat)
  case atStart => exact ⟨0, Nat.zero_le _, rfl, fun j hj => absurd hj (Nat.not_lt_zero j), Ext.refl _⟩
  case round =>
    obtain ⟨k, hk, rfl, hz, he⟩ := hrel
    by_cases hlt : k < K
    · have hlt' : (k : Int) < (K : Int) := by omega
      have EK := E0.trans he
      obtain ⟨b1, o1, rfl, c1⟩ := HC.out.ext EK k (by rw [HA.out]; exact hlt)
      obtain ⟨b2, o2, rfl, c2⟩ := HD.out.ext EK k (by rw [HB.out]; exact hlt)
      have hh := HH.out k hlt
      have hzz : b.parts.getD k 0 ≤ a.parts.getD k 0 → ∀ j, j < k + 1 → b.parts.getD j 0 ≤ a.parts.getD j 0 := fun h j hj => by
        rcases Nat.lt_or_eq_of_le (Nat.le_of_lt_succ hj) with h2 | rfl
        · exact hz.out j h2
        · exact h
      generalize a.parts.getD k 0 = x at c1 hh hzz
      generalize b.parts.getD k 0 = y at c2 hh hzz
      have x0 := he.cell x0
      have y0 := he.cell y0
      have z0 := cell_lt x0
      have z1 := cell_lt y0
      have z2 := cell_lt c1
      have z3 := cell_lt c2
      dsimp only at z0 z1 z2 z3
      clear hz
      by_cases hxy : x < y
      · have hr := hh hxy
        subst hr
        clear hh hzz
        go_wp2
        go_ret
        exact ⟨rfl, EK⟩
      · have HZ := Lib.hid (hzz (by omega))
        clear hh hzz
        go_wp2
        exact ⟨⟨k + 1, by omega, by go_num, HZ.out, he⟩, by simp [intOf]; omega⟩
    · have hke : k = K := by omega
      subst hke
      have hlt' : ¬ (k : Int) < (k : Int) := by omega
      have hr := HE.out hz.out
      have HR := Lib.hid hr
      have x1 := he.cell x1
      have x2 := he.cell x2
      have y1 := he.cell y1
      have y2 := he.cell y2
      have z0 := cell_lt x1
      have z1 := cell_lt y1
      dsimp only at z0 z1
      generalize a.price = p at x1 HR
      generalize b.price = q at y1 HR
      generalize a.most = m at x2 HR
      generalize b.most = n at y2 HR
      clear hr hz
      by_cases h1 : p ≤ q
      · by_cases h2 : n ≤ m
        · go_wp2
          go_ret
          exact ⟨ret_bool (by rw [HR.out]; simp [h1, h2]), E0.trans he⟩
        · go_wp2
          go_ret
          exact ⟨ret_bool (by rw [HR.out]; simp [h1, h2]), E0.trans he⟩
      · go_wp2
        go_ret
        exact ⟨ret_bool (by rw [HR.out]; simp; omega), E0.trans he⟩
theorem dearL_bad {pks : List Pk} {need : List Int} (h : checkS pks need ≠ 0) : dearL pks need = [] := by unfold dearL; rw [if_neg h]
theorem dearL_ok {pks : List Pk} {need : List Int} (h : checkS pks need = 0) : dearL pks need = dearT pks pks.length := by unfold dearL; rw [if_pos h]
theorem dearB_self {ps : List Pk} {i : Nat} : dearB ps i i = false := by unfold dearB; simp
theorem dearB_ne {ps : List Pk} {i k : Nat} (h : k ≠ i) : dearB ps i k = (coversS (ps.getD k pk0) (ps.getD i pk0) && (decide (k < i) || !coversS (ps.getD i pk0) (ps.getD k pk0))) := by unfold dearB; simp [h]
set_option maxHeartbeats 8000000 in
set_option maxRecDepth 100000 in
theorem Dear_any {pks : List Pk} {need : List Int} {pa : Option Addr} {pc : Nat} {na : Option Addr} {nc : Nat} {w : World} (ht : TaskG w pks need pa pc na nc) :
    Calls Tryz.prog 30 #[taskV pks need pa pc na nc] w fun e w' => SliceE (dearL pks need) (checkS pks need) w e w' := by
  have HCK := Lib.hid (fun w' (he : Ext w w') => Check_any (ht.ext he))
  unfold taskV at HCK ⊢
  unfold SliceE
  have HP := Lib.hid ht.pk
  obtain ⟨N, hN⟩ : ∃ N, N = pks.length := ⟨_, rfl⟩
  obtain ⟨K, hK⟩ : ∃ K, K = need.length := ⟨_, rfl⟩
  obtain ⟨c, hc⟩ : ∃ c, checkS pks need = c := ⟨_, rfl⟩
  obtain ⟨q, hq⟩ : ∃ q, dearL pks need = q := ⟨_, rfl⟩
  rw [hc, ← hN, ← hK] at HCK
  rw [hc, hq, ← hN, ← hK]
  have HC := Lib.hid (show _ ∧ _ from ⟨hc, hq⟩)
  have HN := Lib.hid hN
  have HK := Lib.hid hK
  clear ht hc hq hN hK
  have E0 : Ext w (w.alloc (.cells #[.slice pa N pc, .slice na K nc] 25)) := (Ext.refl _).alloc _
  have y1 : (w.alloc (.cells #[.slice pa N pc, .slice na K nc] 25)).cell? ⟨w.heap.size, 0, none⟩ = some (.slice pa N pc) := by go_simp
  have y2 : (w.alloc (.cells #[.slice pa N pc, .slice na K nc] 25)).cell? ⟨w.heap.size, 1, none⟩ = some (.slice na K nc) := by go_simp
  go_enter Tryz.func30, Tryz.ntmps30
  go_wp2_with fail
  refine (HCK.out _ E0).mono ?_
  rintro e w1 ⟨rfl, hE⟩
  have E1 := E0.trans hE
  have a1 := hE.cell y1
  clear hE E0 y1 y2 HCK
  by_cases h0 : c = 0
  · subst h0
    have hr := right_of HC.out.1
    have HR := Lib.hid hr
    have HQ : Hid (q = dearT pks N) := by show _ = _; rw [← HC.out.2, dearL_ok HC.out.1, HN.out]
    have hN64 : N ≤ 64 := by have := hr.pl; have := HN.out; omega
    have hK16 : K ≤ 16 := by have := hr.k1; have := HK.out; omega
    clear hr HC
    go_wp2
    go_loopw [5, 18] (fun v i wr => ∃ k : Nat, k ≤ N ∧ i = .int .i64 k ∧ Hid (OwnsI wr v (dearT pks k)) ∧ Hid (∀ b, v.ownBlock = some b → w1.heap.size ≤ b) ∧ Ext w1 wr) (fun _ i _ => N - (intOf i).toNat)
    case atStart => exact ⟨0, Nat.zero_le _, rfl, OwnsI.nil _, fun b hb => (by cases hb), Ext.refl _⟩
    case round =>
      obtain ⟨k, hk, rfl, HO, HV, he⟩ := hrel
      generalize u5 = vv at HO HV ⊢
      by_cases hlt : k < N
      · have hlt' : (k : Int) < (N : Int) := by omega
        obtain ⟨b, off, v, rfl, c1, cs, c2, c3⟩ := (HP.out.ext (E1.trans he)) k (by rw [← HN.out]; exact hlt)
        obtain ⟨ai, ci, rfl, cs, _, _⟩ := cs
        rw [HR.out.parts _ (getD_mem (d := pk0) (by rw [← HN.out]; exact hlt)), ← HK.out] at c1
        have hpl : (pks.getD k pk0).parts.length = K := by rw [HR.out.parts _ (getD_mem (d := pk0) (by rw [← HN.out]; exact hlt)), ← HK.out]
        have HIT : Hid (∀ j, j < N → dearB pks k j = true → dearS pks k = true) := fun j hj h => dear_hit (by rw [← HN.out]; exact hj) h
        have END : Hid ((∀ j, j < N → dearB pks k j = false) → dearS pks k = false) := fun h => dear_end (by rw [← HN.out]; exact h)
        have HBB : Hid (∀ j, j ≠ k → dearB pks k j = (coversS (pks.getD j pk0) (pks.getD k pk0) && (decide (j < k) || !coversS (pks.getD k pk0) (pks.getD j pk0)))) := fun j h => dearB_ne h
        generalize pks.getD k pk0 = p at c1 cs c2 c3 hpl HBB
        have HPL := Lib.hid hpl
        have HCS := Lib.hid cs
        have a1' := he.cell a1
        have z0 := cell_lt a1'
        have z1 := cell_lt c1
        dsimp only at z0 z1
        have EV : Ext wr (wr.alloc (.cells #[.slice ai K ci, .int .i64 p.price, .int .i64 p.most] 62)) := extA
        have d0 : (wr.alloc (.cells #[.slice ai K ci, .int .i64 p.price, .int .i64 p.most] 62)).cell? ⟨wr.heap.size, 0, none⟩ = some (.slice ai K ci) := by go_simp
        have d1 : (wr.alloc (.cells #[.slice ai K ci, .int .i64 p.price, .int .i64 p.most] 62)).cell? ⟨wr.heap.size, 1, none⟩ = some (.int .i64 p.price) := by go_simp
        have d2 : (wr.alloc (.cells #[.slice ai K ci, .int .i64 p.price, .int .i64 p.most] 62)).cell? ⟨wr.heap.size, 2, none⟩ = some (.int .i64 p.most) := by go_simp
        clear hpl cs
        go_wp2
        have EV2 := he.trans EV
        have HO2 := Lib.hid (HO.out.ext EV)
        have HCS2 := Lib.hid (HCS.out.ext EV)
        obtain ⟨lb, hlb⟩ : ∃ lb, lb = wr.heap.size := ⟨_, rfl⟩
        rw [← hlb] at d0 d1 d2 ⊢
        have a1v := EV.cell a1'
        clear hlb c1 c2 c3 HO HCS z0 z1 a1' EV
        generalize (wr.alloc (.cells #[.slice ai K ci, .int .i64 p.price, .int .i64 p.most] 62)) = W at d0 d1 d2 a1v EV2 HO2 HCS2 ⊢
        have zl := cell_lt d0
        dsimp only at zl
        go_loopw [5, 26] (fun v i wr => ∃ j : Nat, j ≤ N ∧ i = .int .i64 j ∧ v = vv ∧ Hid (∀ t, t < j → dearB pks k t = false) ∧ Ext W wr) (fun _ i _ => N - (intOf i).toNat)
        case atStart => exact ⟨0, Nat.zero_le _, rfl, rfl, fun j hj => absurd hj (Nat.not_lt_zero j), Ext.refl _⟩
        case round =>
          obtain ⟨j, hj, rfl, rfl, hz, hx⟩ := hrel
          by_cases hjl : j < N
          · have hjl' : (j : Int) < (N : Int) := by omega
            have HX := Lib.hid hx
            have EW := E1.trans (EV2.trans hx)
            obtain ⟨b2, off2, v2, hpa, c1, cs, c2, c3⟩ := (HP.out.ext EW) j (by rw [← HN.out]; exact hjl)
            cases hpa
            obtain ⟨ai2, ci2, rfl, cs, _, _⟩ := cs
            have hpl : (pks.getD j pk0).parts.length = K := by rw [HR.out.parts _ (getD_mem (d := pk0) (by rw [← HN.out]; exact hjl)), ← HK.out]
            rw [hpl] at c1
            have hbj := HBB.out j
            have hhit := HIT.out j hjl
            have hnext : dearB pks k j = false → ∀ t, t < j + 1 → dearB pks k t = false := fun h t ht => by
              rcases Nat.lt_or_eq_of_le (Nat.le_of_lt_succ ht) with h2 | rfl
              · exact hz.out t h2
              · exact h
            have hself : j = k → dearB pks k j = false := fun h => by rw [h]; exact dearB_self
            generalize dearB pks k j = dj at hbj hhit hnext hself
            generalize pks.getD j pk0 = y at c1 cs c2 c3 hpl hbj
            have HPLY := Lib.hid hpl
            have HCSY := Lib.hid cs
            have a1' := hx.cell a1v
            have d0 := hx.cell d0
            have d1 := hx.cell d1
            have d2 := hx.cell d2
            have z0 := cell_lt a1'
            have z1 := cell_lt c1
            have z2 := cell_lt d0
            dsimp only at z0 z1 z2
            have EV3 : Ext wr (wr.alloc (.cells #[.slice ai2 K ci2, .int .i64 y.price, .int .i64 y.most] 62)) := extA
            have e0 : (wr.alloc (.cells #[.slice ai2 K ci2, .int .i64 y.price, .int .i64 y.most] 62)).cell? ⟨wr.heap.size, 0, none⟩ = some (.slice ai2 K ci2) := by go_simp
            have e1 : (wr.alloc (.cells #[.slice ai2 K ci2, .int .i64 y.price, .int .i64 y.most] 62)).cell? ⟨wr.heap.size, 1, none⟩ = some (.int .i64 y.price) := by go_simp
            have e2 : (wr.alloc (.cells #[.slice ai2 K ci2, .int .i64 y.price, .int .i64 y.most] 62)).cell? ⟨wr.heap.size, 2, none⟩ = some (.int .i64 y.most) := by go_simp
            clear hpl cs
            by_cases hjk : j = k
            · have HG := Lib.hid (hnext (hself hjk))
              subst hjk
              have k1 : ((j : Int) == (j : Int)) = true := by simp
              clear hbj hhit hnext hself hz
              go_wp2
              exact ⟨⟨j + 1, by omega, by go_num, rfl, HG.out, hx.trans EV3⟩, by simp [intOf]; omega⟩
            have k1 : ((j : Int) == (k : Int)) = false := by simp; omega
            have k2 : ¬ (j : Int) = (k : Int) := by omega
            have HBJ := Lib.hid (hbj hjk)
            have HHIT := Lib.hid hhit
            have HNEXT := Lib.hid hnext
            clear hbj hhit hnext hself hz
            go_wp2_with fail
            refine (covers_any y p K ai2 ai ci2 ci _ HPLY.out HPL.out hK16 (HCSY.out.ext EV3) (HCS2.out.ext (hx.trans EV3))).mono ?_
            rintro e w4 ⟨rfl, hE⟩
            have E4 := EV3.trans hE
            have e0 := hE.cell e0
            have e1 := hE.cell e1
            have e2 := hE.cell e2
            have d0 := E4.cell d0
            have d1 := E4.cell d1
            have d2 := E4.cell d2
            obtain ⟨mb, hmb⟩ : ∃ mb, mb = wr.heap.size := ⟨_, rfl⟩
            rw [← hmb] at e0 e1 e2 ⊢
            have z3 := cell_lt e0
            dsimp only at z3
            clear hmb hE EV3 c1 c2 c3 a1' z0 z1 z2
            have z4 := cell_lt d0
            dsimp only at z4
            have HB1 := HBJ
            obtain ⟨cv, hcv⟩ : ∃ cv, coversS y p = cv := ⟨_, rfl⟩
            rw [hcv] at HBJ ⊢
            clear hcv HB1
            cases cv
            · have HG := Lib.hid (HNEXT.out (by rw [HBJ.out]; rfl))
              go_wp2
              exact ⟨⟨j + 1, by omega, by go_num, rfl, HG.out, hx.trans E4⟩, by simp [intOf]; omega⟩
            by_cases hlk : j < k
            · have k3 : (j : Int) < (k : Int) := by omega
              have HDT : Hid (dj = true) := by show _ = _; rw [HBJ.out]; simp [hlk]
              have HY := Lib.hid (HHIT.out HDT.out)
              have HO5 := Lib.hid (HO2.out.ext (hx.trans E4))
              have EW5 : Ext w1 w4 := EV2.trans (hx.trans E4)
              obtain ⟨i0, hi, hi0, hi1, hi2⟩ := info_parts infoInt
              go_wp2_with (at_builtin; refine wpList_append1 _ rfl _ _ 23 rfl 3 i0 (.int .i64 0) 1 8 Tryz.underlying23 hi hi0 hi1 hi2 rfl (by decide) u5 (dearT pks k).length (vals (dearT pks k)) rfl (HO5.out.ext ((Ext.refl _).alloc _)) ⟨w4.heap.size, 0, none⟩ 1 1 (by decide) [.int .i64 (k : Int)] rfl rfl (cells_one _ _ _) (by intro u hu; simp at hu; subst hu; rfl) (by have := dearT_len pks k; unfold maxLen; omega) (by have := dearT_len pks k; omega) ?_)
              intro v' w9 hown9 hend9
              have O9 : Hid (OwnsI w9 v' (dearT pks (k + 1))) := by
                show OwnsI _ _ _
                rw [dearT_yes HY.out]
                exact ownsI_succ hown9
              have OB9 : Hid (∀ b, v'.ownBlock = some b → w1.heap.size ≤ b) := hend9.ge (n := w1.heap.size) (by have := EW5.size; simp; omega) HV.out
              have B9 : Ext w1 w9 := (EW5.trans ((Ext.refl _).alloc _)).trans' (hend9.below (n := w1.heap.size) (by have := EW5.size; simp; omega) HV.out) (Nat.le_refl _)
              clear hown9 hend9 HO5 hi hi0 hi1 hi2 i0
              go_wp2
              exact ⟨⟨k + 1, by omega, by go_num, O9.out, OB9.out, B9⟩, by simp [intOf]; omega⟩
            have k3 : ¬ (j : Int) < (k : Int) := by omega
            go_wp2_with fail
            refine (covers_any p y K ai ai2 ci ci2 _ HPL.out HPLY.out hK16 (HCS2.out.ext (hx.trans E4)) (HCSY.out.ext E4)).mono ?_
            rintro e w5 ⟨rfl, hE⟩
            have E5 := E4.trans hE
            obtain ⟨cv, hcv⟩ : ∃ cv, coversS p y = cv := ⟨_, rfl⟩
            rw [hcv] at HBJ ⊢
            clear hcv hE
            cases cv
            · have HDT : Hid (dj = true) := by show _ = _; rw [HBJ.out]; simp
              have HY := Lib.hid (HHIT.out HDT.out)
              have HO5 := Lib.hid (HO2.out.ext (hx.trans E5))
              have EW5 : Ext w1 w5 := EV2.trans (hx.trans E5)
              obtain ⟨i0, hi, hi0, hi1, hi2⟩ := info_parts infoInt
              go_wp2_with (at_builtin; refine wpList_append1 _ rfl _ _ 23 rfl 3 i0 (.int .i64 0) 1 8 Tryz.underlying23 hi hi0 hi1 hi2 rfl (by decide) u5 (dearT pks k).length (vals (dearT pks k)) rfl (HO5.out.ext ((Ext.refl _).alloc _)) ⟨w5.heap.size, 0, none⟩ 1 1 (by decide) [.int .i64 (k : Int)] rfl rfl (cells_one _ _ _) (by intro u hu; simp at hu; subst hu; rfl) (by have := dearT_len pks k; unfold maxLen; omega) (by have := dearT_len pks k; omega) ?_)
              intro v' w9 hown9 hend9
              have O9 : Hid (OwnsI w9 v' (dearT pks (k + 1))) := by
                show OwnsI _ _ _
                rw [dearT_yes HY.out]
                exact ownsI_succ hown9
              have OB9 : Hid (∀ b, v'.ownBlock = some b → w1.heap.size ≤ b) := hend9.ge (n := w1.heap.size) (by have := EW5.size; simp; omega) HV.out
              have B9 : Ext w1 w9 := (EW5.trans ((Ext.refl _).alloc _)).trans' (hend9.below (n := w1.heap.size) (by have := EW5.size; simp; omega) HV.out) (Nat.le_refl _)
              clear hown9 hend9 HO5 hi hi0 hi1 hi2 i0
              go_wp2
              exact ⟨⟨k + 1, by omega, by go_num, O9.out, OB9.out, B9⟩, by simp [intOf]; omega⟩
            have HG := Lib.hid (HNEXT.out (by rw [HBJ.out]; simp; omega))
            go_wp2
            exact ⟨⟨j + 1, by omega, by go_num, rfl, HG.out, hx.trans E5⟩, by simp [intOf]; omega⟩
          · have hje : j = N := by omega
            subst hje
            have hjl' : ¬ (j : Int) < (j : Int) := by omega
            have HNO := Lib.hid (END.out hz.out)
            have HO3 := Lib.hid (HO2.out.ext hx)
            clear hz
            go_wp2
            refine ⟨⟨k + 1, by omega, by go_num, ?_, HV.out, EV2.trans hx⟩, by simp [intOf]; omega⟩
            show OwnsI _ _ _
            rw [dearT_no HNO.out]
            exact HO3.out
      · have hke : k = N := by omega
        subst hke
        have hlt' : ¬ (k : Int) < (k : Int) := by omega
        obtain ⟨a, cp, hv, g1, g2, g3⟩ := HO.out.full
        rw [← HQ.out] at hv g1 g2
        subst hv
        have HG := Lib.hid (show _ ∧ _ ∧ _ from ⟨g1, g2, g3⟩)
        clear g1 g2 g3 HO HV
        go_wp2
        go_ret2
        exact ⟨a, cp, rfl, HG.out.1, HG.out.2.1, HG.out.2.2, E1.trans he⟩
  · have k1 : (c == 0) = false := by simp [h0]
    obtain rfl : q = [] := by rw [← HC.out.2]; exact dearL_bad (by rw [HC.out.1]; exact h0)
    go_wp2
    go_ret2
    exact ⟨none, 0, rfl, fun i hi => by simp at hi, Nat.le_refl _, Nat.zero_le _, E1⟩
end Go.Proofs.YtmndcdjcodfchaaGreatDoor
namespace Go.Proofs.YtmndcdjcodfchaaGreatDoor
open Go.ChangeShapes Go.WideShapes Go.ChangeAt Go.RowKit
theorem own : ownKnob Tryz.prog.godebug = none := by kernel_rfl
theorem gTab : Tryz.prog.globalNamed "internal/strconv.uint64pow10" = some 1 := by kernel_rfl
theorem gTabT : (Tryz.prog.globals[1]?).map (·.type) = some 208 := by kernel_rfl
theorem cellsTab : Tryz.prog.cellsOf 208 = 20 := by kernel_rfl
theorem cellsU64 : Tryz.prog.cellsOf 139 = 1 := by kernel_rfl
theorem gRng : Tryz.prog.globalNamed "strconv.ErrRange" = some 5 := by kernel_rfl
theorem gRngT : (Tryz.prog.globals[5]?).map (·.type) = some 175 := by kernel_rfl
theorem gSyn : Tryz.prog.globalNamed "strconv.ErrSyntax" = some 4 := by kernel_rfl
theorem gSynT : (Tryz.prog.globals[4]?).map (·.type) = some 175 := by kernel_rfl
theorem starE : "*" ++ "errors.errorString" = "*errors.errorString" := by decide
theorem rowE (u : TypeId) (h : Tryz.prog.typeName? 3 u = some "*errors.errorString") : u = 243 :=
  typeName_ptr_named (nm := "errors.errorString") (by rw [starE]; kernel_rfl) (by kernel_rfl) (by decide) u (by rw [starE]; exact h)
theorem cellsErr : Tryz.prog.cellsOf 245 = 1 := by kernel_rfl
theorem cellsStr : Tryz.prog.cellsOf 9 = 1 := by kernel_rfl
theorem glob_of {W : World} (hs : W.ShapedOpen Tryz.prog) (hL : laidMetH Tryz.prog Rows.stockCostsRow.laid W) : Glob W := by
  have hP : laidMet Tryz.prog Rows.stockCostsRow.laid W := by
    rw [← MakeChecks.laidMetH_plain _ _ _ (by kernel_rfl)]; exact hL
  have hP2 := hP.tail.tail
  have hP4 := hP2.tail.tail
  have hP5 := hP4.tail
  obtain ⟨a0, _, h0, _⟩ := laid_sentinel hP4 gRng gRngT Tryz.underlying175 rowE Tryz.underlying243 Tryz.underlying245 rfl rfl Tryz.underlying9 cellsErr cellsStr
  obtain ⟨a1, _, h1, _⟩ := laid_sentinel hP5 gSyn gSynT Tryz.underlying175 rowE Tryz.underlying243 Tryz.underlying245 rfl rfl Tryz.underlying9 cellsErr cellsStr
  exact ⟨cell_of_shapedOpen_int (zero := #[.int .i64 0]) (t := 3) hs (of_decide_eq_true (by kernel_rfl)) (by kernel_rfl) rfl (by kernel_rfl) (by kernel_rfl) Tryz.underlying3,
    Lib.tabIs_of_head gTab gTabT Tryz.underlying208 Tryz.underlying139 cellsU64 cellsTab hP2, ⟨_, _, h1⟩, ⟨_, _, h0⟩⟩
def flatD : Nat → DataW Unit → List Value
  | _ + 1, .lit (.int k z) => [.int k z]
  | n + 1, .agg ds => ds.flatMap (flatD n)
  | _, _ => []
def putC (cs : List Value) : Obj → Obj
  | .cells _ t frozen => .cells ⟨cs⟩ t frozen
  | o => o
noncomputable def lowB : Nat := (World.holding Tryz.prog default ⟨#[], #[], []⟩).heap.size
def rngS : ByteArray := ⟨#[118, 97, 108, 117, 101, 32, 111, 117, 116, 32, 111, 102, 32, 114, 97, 110, 103, 101]⟩
def synS : ByteArray := ⟨#[105, 110, 118, 97, 108, 105, 100, 32, 115, 121, 110, 116, 97, 120]⟩
noncomputable def laidWorld (os : Os) : World :=
  let w0 := World.holding Tryz.prog os ⟨#[.cells #[.string rngS] 245, .cells #[.string synS] 245], #[], []⟩
  { w0 with heap := (((((((w0.heap.modify 6 (putC (flatD 3 Rows.laid_math_bits_deBruijn32tab))).modify 7 (putC (flatD 3 Rows.laid_math_bits_deBruijn64tab))).modify
      1 (putC (flatD 3 Rows.laid_internal_strconv_uint64pow10))).modify 3 (putC (flatD 3 Rows.laid_unicode_utf8_acceptRanges))).modify
      5 (putC [.iface 243 (.pointer (some ⟨lowB, 0, none⟩))])).modify 4 (putC [.iface 243 (.pointer (some ⟨lowB + 1, 0, none⟩))])).modify
      2 (putC (flatD 3 Rows.laid_unicode_utf8_first))) }
theorem laid_met (os : Os) (args : Array Value) : laidMet Tryz.prog Rows.stockCostsRow.laid ((laidWorld os).forCall (fun _ _ => 0) ⟨#[], args, []⟩).memory :=
  laidMet_of_run' 8 (by kernel_rfl) (by kernel_rfl)
end Go.Proofs.YtmndcdjcodfchaaGreatDoor
namespace Go.Proofs.YtmndcdjcodfchaaGreatDoor
open Go.RowKit
set_option maxHeartbeats 4000000 in
theorem rBetter_any (a b : Pk) (K : Nat) (aa ba : Option Addr) (ac bc : Nat) (w : World) (ha : a.parts.length = K) (hb : b.parts.length = K) (hK : K ≤ 16) (hc : CellsI w aa a.parts) (hd : CellsI w ba b.parts) :
    Calls Tryz.prog 70 #[.agg #[.slice aa K ac, .int .i64 a.price, .int .i64 a.most], .agg #[.slice ba K bc, .int .i64 b.price, .int .i64 b.most]] w fun e w' => e = .returned (.bool (coversS a b)) ∧ Ext w w' := by
  have HC := Lib.hid hc
  have HD := Lib.hid hd
  have HA := Lib.hid ha
  have HB := Lib.hid hb
  obtain ⟨r, hr⟩ : ∃ r, coversS a b = r := ⟨_, rfl⟩
  rw [hr]
  have HH : Hid (∀ k, k < K → a.parts.getD k 0 < b.parts.getD k 0 → r = false) := fun k hk h => by rw [← hr]; exact parts_hit (by omega) h
  have HE : Hid ((∀ k, k < K → b.parts.getD k 0 ≤ a.parts.getD k 0) → r = (decide (a.price ≤ b.price) && decide (b.most ≤ a.most))) := fun h => by rw [← hr]; exact parts_end (by rw [hb]; exact h)
  have E0 : Ext w ((w.alloc (.cells #[.slice aa K ac, .int .i64 a.price, .int .i64 a.most] 79)).alloc (.cells #[.slice ba K bc, .int .i64 b.price, .int .i64 b.most] 79)) := extA
  have x0 : ((w.alloc (.cells #[.slice aa K ac, .int .i64 a.price, .int .i64 a.most] 79)).alloc (.cells #[.slice ba K bc, .int .i64 b.price, .int .i64 b.most] 79)).cell? ⟨w.heap.size, 0, none⟩ = some (.slice aa K ac) := by go_simp
  have x1 : ((w.alloc (.cells #[.slice aa K ac, .int .i64 a.price, .int .i64 a.most] 79)).alloc (.cells #[.slice ba K bc, .int .i64 b.price, .int .i64 b.most] 79)).cell? ⟨w.heap.size, 1, none⟩ = some (.int .i64 a.price) := by go_simp
  have x2 : ((w.alloc (.cells #[.slice aa K ac, .int .i64 a.price, .int .i64 a.most] 79)).alloc (.cells #[.slice ba K bc, .int .i64 b.price, .int .i64 b.most] 79)).cell? ⟨w.heap.size, 2, none⟩ = some (.int .i64 a.most) := by go_simp
  have y0 : ((w.alloc (.cells #[.slice aa K ac, .int .i64 a.price, .int .i64 a.most] 79)).alloc (.cells #[.slice ba K bc, .int .i64 b.price, .int .i64 b.most] 79)).cell? ⟨w.heap.size + 1, 0, none⟩ = some (.slice ba K bc) := by go_simp
  have y1 : ((w.alloc (.cells #[.slice aa K ac, .int .i64 a.price, .int .i64 a.most] 79)).alloc (.cells #[.slice ba K bc, .int .i64 b.price, .int .i64 b.most] 79)).cell? ⟨w.heap.size + 1, 1, none⟩ = some (.int .i64 b.price) := by go_simp
  have y2 : ((w.alloc (.cells #[.slice aa K ac, .int .i64 a.price, .int .i64 a.most] 79)).alloc (.cells #[.slice ba K bc, .int .i64 b.price, .int .i64 b.most] 79)).cell? ⟨w.heap.size + 1, 2, none⟩ = some (.int .i64 b.most) := by go_simp
  clear hc hd ha hb hr
  go_enter Tryz.func70, Tryz.ntmps70
  go_wp2
  generalize ((w.alloc (.cells #[.slice aa K ac, .int .i64 a.price, .int .i64 a.most] 79)).alloc (.cells #[.slice ba K bc, .int .i64 b.price, .int .i64 b.most] 79)) = W at E0 x0 x1 x2 y0 y1 y2 ⊢
  go_loopw [5] (fun i wr => ∃ k : Nat, k ≤ K ∧ i = .int .i64 k ∧ Hid (∀ j, j < k → b.parts.getD j 0 ≤ a.parts.getD j 0) ∧ Ext W wr) (fun i _ => K - (intOf i).toNat)
  case atStart => exact ⟨0, Nat.zero_le _, rfl, fun j hj => absurd hj (Nat.not_lt_zero j), Ext.refl _⟩
  case round =>
    obtain ⟨k, hk, rfl, hz, he⟩ := hrel
    by_cases hlt : k < K
    · have hlt' : (k : Int) < (K : Int) := by omega
      have EK := E0.trans he
      obtain ⟨b1, o1, rfl, c1⟩ := HC.out.ext EK k (by rw [HA.out]; exact hlt)
      obtain ⟨b2, o2, rfl, c2⟩ := HD.out.ext EK k (by rw [HB.out]; exact hlt)
      have hh := HH.out k hlt
      have hzz : b.parts.getD k 0 ≤ a.parts.getD k 0 → ∀ j, j < k + 1 → b.parts.getD j 0 ≤ a.parts.getD j 0 := fun h j hj => by
        rcases Nat.lt_or_eq_of_le (Nat.le_of_lt_succ hj) with h2 | rfl
        · exact hz.out j h2
        · exact h
      generalize a.parts.getD k 0 = x at c1 hh hzz
      generalize b.parts.getD k 0 = y at c2 hh hzz
      have x0 := he.cell x0
      have y0 := he.cell y0
      have z0 := cell_lt x0
      have z1 := cell_lt y0
      have z2 := cell_lt c1
      have z3 := cell_lt c2
      dsimp only at z0 z1 z2 z3
      clear hz
      by_cases hxy : x < y
      · have hr := hh hxy
        subst hr
        clear hh hzz
        go_wp2
        go_quiet (fail)
        go_wp2
        go_ret
        exact ⟨rfl, extA⟩
      · have HZ := Lib.hid (hzz (by omega))
        clear hh hzz
        go_wp2
        go_quiet (fail)
        go_wp2
        exact ⟨⟨k + 1, by omega, by go_num, HZ.out, extA⟩, by simp [intOf]; omega⟩
    · have hke : k = K := by omega
      subst hke
      have hlt' : ¬ (k : Int) < (k : Int) := by omega
      have hr := HE.out hz.out
      have HR := Lib.hid hr
      have x1 := he.cell x1
      have x2 := he.cell x2
      have y1 := he.cell y1
      have y2 := he.cell y2
      have z0 := cell_lt x1
      have z1 := cell_lt y1
      dsimp only at z0 z1
      generalize a.price = p at x1 HR
      generalize b.price = q at y1 HR
      generalize a.most = m at x2 HR
      generalize b.most = n at y2 HR
      have x0 := he.cell x0
      have zx := cell_lt x0
      dsimp only at zx
      clear hr hz
      by_cases h1 : p ≤ q
      · by_cases h2 : n ≤ m
        · go_wp2
          go_ret
          exact ⟨ret_bool (by rw [HR.out]; simp [h1, h2]), E0.trans he⟩
        · go_wp2
          go_ret
          exact ⟨ret_bool (by rw [HR.out]; simp [h1, h2]), E0.trans he⟩
      · go_wp2
        go_ret
        exact ⟨ret_bool (by rw [HR.out]; simp; omega), E0.trans he⟩
def foundT (ps : List Pk) (i j : Nat) : Bool := (List.range j).any (dearB ps i)
theorem found_succ (ps : List Pk) (i j : Nat) : foundT ps i (j + 1) = (foundT ps i j || dearB ps i j) := by
  unfold foundT
  rw [List.range_succ, List.any_append, List.any_cons, List.any_nil, Bool.or_false]
theorem found_full (ps : List Pk) (i : Nat) {N : Nat} (h : N = ps.length) : foundT ps i N = dearS ps i := by unfold foundT dearS; rw [h]
set_option maxHeartbeats 16000000 in
set_option maxRecDepth 100000 in
theorem rDear_any {pks : List Pk} {need : List Int} {pa : Option Addr} {pc : Nat} {na : Option Addr} {nc : Nat} {w : World} (ht : TaskG w pks need pa pc na nc) :
    Calls Tryz.prog 31 #[taskV pks need pa pc na nc] w fun e w' => SliceE (dearL pks need) (checkS pks need) w e w' := by
  have HCK := Lib.hid (fun w' (he : Ext w w') => rCheck_any (ht.ext he))
  unfold taskV at HCK ⊢
  unfold SliceE
  have HP := Lib.hid ht.pk
  obtain ⟨N, hN⟩ : ∃ N, N = pks.length := ⟨_, rfl⟩
  obtain ⟨K, hK⟩ : ∃ K, K = need.length := ⟨_, rfl⟩
  obtain ⟨c, hc⟩ : ∃ c, checkS pks need = c := ⟨_, rfl⟩
  obtain ⟨q, hq⟩ : ∃ q, dearL pks need = q := ⟨_, rfl⟩
  rw [hc, ← hN, ← hK] at HCK
  rw [hc, hq, ← hN, ← hK]
  have HC := Lib.hid (show _ ∧ _ from ⟨hc, hq⟩)
  have HN := Lib.hid hN
  have HK := Lib.hid hK
  clear ht hc hq hN hK
  have E0 : Ext w (w.alloc (.cells #[.slice pa N pc, .slice na K nc] 30)) := (Ext.refl _).alloc _
  have y1 : (w.alloc (.cells #[.slice pa N pc, .slice na K nc] 30)).cell? ⟨w.heap.size, 0, none⟩ = some (.slice pa N pc) := by go_simp
  have y2 : (w.alloc (.cells #[.slice pa N pc, .slice na K nc] 30)).cell? ⟨w.heap.size, 1, none⟩ = some (.slice na K nc) := by go_simp
  go_enter Tryz.func31, Tryz.ntmps31
  go_wp2_with fail
  refine (HCK.out _ E0).mono ?_
  rintro e w1 ⟨rfl, hE⟩
  have E1 := E0.trans hE
  have a1 := hE.cell y1
  clear hE E0 y1 y2 HCK
  by_cases h0 : c = 0
  rotate_left
  · have k1 : (c == 0) = false := by simp [h0]
    obtain rfl : q = [] := by rw [← HC.out.2]; exact dearL_bad (by rw [HC.out.1]; exact h0)
    go_wp2
    go_ret2
    exact ⟨none, 0, rfl, fun i hi => by simp at hi, Nat.le_refl _, Nat.zero_le _, E1⟩
  subst h0
  have hr := right_of HC.out.1
  have HR := Lib.hid hr
  have HQ : Hid (q = dearT pks N) := by show _ = _; rw [← HC.out.2, dearL_ok HC.out.1, HN.out]
  have hN64 : N ≤ 64 := by have := hr.pl; have := HN.out; omega
  have hK16 : K ≤ 16 := by have := hr.k1; have := HK.out; omega
  clear hr HC
  go_wp2
  go_loopw [5, 6] (fun v i wr => ∃ k : Nat, k ≤ N ∧ i = .int .i64 k ∧ Hid (OwnsI wr v (dearT pks k)) ∧ Hid (∀ b, v.ownBlock = some b → w1.heap.size ≤ b) ∧ Ext w1 wr) (fun _ i _ => N - (intOf i).toNat)
  case atStart => exact ⟨0, Nat.zero_le _, rfl, OwnsI.nil _, fun b hb => (by cases hb), Ext.refl _⟩
  case round =>
    obtain ⟨k, hk, rfl, HO, HV, he⟩ := hrel
    generalize u5 = vv at HO HV ⊢
    have a1' := he.cell a1
    have z0 := cell_lt a1'
    dsimp only at z0
    by_cases hlt : k < N
    · have hlt' : (k : Int) < (N : Int) := by omega
      obtain ⟨b3, o3, v, rfl, c1, cs, c2, c3⟩ := (HP.out.ext (E1.trans he)) k (by rw [← HN.out]; exact hlt)
      obtain ⟨ak, ck, rfl, cs, _, _⟩ := cs
      have hpl : (pks.getD k pk0).parts.length = K := by rw [HR.out.parts _ (getD_mem (d := pk0) (by rw [← HN.out]; exact hlt)), ← HK.out]
      rw [hpl] at c1
      have HBB : Hid (∀ j, j ≠ k → dearB pks k j = (coversS (pks.getD j pk0) (pks.getD k pk0) && (decide (j < k) || !coversS (pks.getD k pk0) (pks.getD j pk0)))) := fun j h => dearB_ne h
      generalize pks.getD k pk0 = p at c1 cs c2 c3 hpl HBB
      have HPL := Lib.hid hpl
      have HCS := Lib.hid cs
      have HC1 := Lib.hid (show _ ∧ _ ∧ _ from ⟨c1, c2, c3⟩)
      clear hpl cs c1 c2 c3
      have ht0 : foundT pks k 0 = false := rfl
      go_wp2
      go_loopw [7, 8] (fun m i wz => ∃ j : Nat, j ≤ N ∧ i = .int .i64 j ∧ m = .bool (foundT pks k j) ∧ Ext wr wz) (fun _ i _ => N - (intOf i).toNat)
      case atStart => exact ⟨0, Nat.zero_le _, rfl, by rw [ht0], Ext.refl _⟩
      case round =>
        have A1 := Lib.hid a1'
        obtain ⟨j, hj, rfl, rfl, hx⟩ := hrel
        have a1' := hx.cell A1.out
        clear z0
        have z0 := cell_lt a1'
        dsimp only at z0
        by_cases hjl : j < N
        · skip
          have hjl' : (j : Int) < (N : Int) := by omega
          have EW := E1.trans (he.trans hx)
          obtain ⟨b4, o4, v2, hpa, c1, cs, c2, c3⟩ := (HP.out.ext EW) j (by rw [← HN.out]; exact hjl)
          cases hpa
          obtain ⟨ai, ci, rfl, cs, _, _⟩ := cs
          have hpl : (pks.getD j pk0).parts.length = K := by rw [HR.out.parts _ (getD_mem (d := pk0) (by rw [← HN.out]; exact hjl)), ← HK.out]
          rw [hpl] at c1
          have hbj := HBB.out j
          have hsc := found_succ pks k j
          have hself : j = k → dearB pks k j = false := fun h => by rw [h]; exact dearB_self
          generalize dearB pks k j = dj at hbj hsc hself
          generalize pks.getD j pk0 = y at c1 cs c2 c3 hpl hbj
          have d1 := hx.cell HC1.out.1
          have d2 := hx.cell HC1.out.2.1
          have d3 := hx.cell HC1.out.2.2
          have HB1 := Lib.hid (fun W (hW : Ext wr W) => rBetter_any y p K ai ak ci ck W hpl HPL.out hK16 (cs.ext hW) (HCS.out.ext (hx.trans hW)))
          have HB2 := Lib.hid (fun W (hW : Ext wr W) => rBetter_any p y K ak ai ck ci W HPL.out hpl hK16 (HCS.out.ext (hx.trans hW)) (cs.ext hW))
          have HSC := Lib.hid hsc
          clear hpl cs hsc
          generalize foundT pks k j = fj at HSC ⊢
          cases fj
          case true =>
            have HF : Hid (foundT pks k (j + 1) = true) := HSC.out
            clear hbj hself
            go_wp2_with fail
            refine wp_region_heldE 99 (fun w' => w'.cell? ⟨w.heap.size, 0, none⟩ = some (.slice (some ⟨b3, o3, none⟩) N pc) ∧ w'.cell? ⟨b3, o3 + j * 3, none⟩ = some (.slice ai K ci) ∧ w'.cell? ⟨b3, o3 + j * 3 + 1, none⟩ = some (.int .i64 y.price) ∧ w'.cell? ⟨b3, o3 + j * 3 + 2, none⟩ = some (.int .i64 y.most) ∧ w'.cell? ⟨b3, o3 + k * 3, none⟩ = some (.slice ak K ck) ∧ w'.cell? ⟨b3, o3 + k * 3 + 1, none⟩ = some (.int .i64 p.price) ∧ w'.cell? ⟨b3, o3 + k * 3 + 2, none⟩ = some (.int .i64 p.most)) (by kernel_rfl) ?_
            have ED : Ext wr wr.drew := (Ext.refl _).drew
            have hS := show _ ∧ _ ∧ _ ∧ _ ∧ _ ∧ _ ∧ _ from ⟨ED.cell a1', ED.cell c1, ED.cell c2, ED.cell c3, ED.cell d1, ED.cell d2, ED.cell d3⟩
            clear a1' c1 c2 c3 d1 d2 d3
            generalize wr.drew = w2 at hS ED ⊢
            obtain ⟨s0, s1, s2, s3, s4, s5, s6⟩ := hS
            have z1 := cell_lt s0
            have z2 := cell_lt s1
            have z3 := cell_lt s4
            dsimp only at z1 z2 z3
            have hS := show _ ∧ _ ∧ _ ∧ _ ∧ _ ∧ _ ∧ _ from ⟨s0, s1, s2, s3, s4, s5, s6⟩
            ((refine ePu 0 ?_); (refine ePu 1 ?_))
            ((refine wpAnyE_take (v := undef) (i := 2) (oi := ?_) ?_ (by kernel_rfl) ?_ ?_ (by assumption) ?_; rotate_left; (focus ((simp only [List.getElem?_toArray, List.getElem?_cons_succ, List.getElem?_cons_zero]; exact rfl))); (focus (exact fun _ _ _ h => h)); (focus (exact Or.inr ⟨by rfl, rfl⟩)); (try simp only [Act.put, List.setIfInBounds_toArray, List.set_cons_zero, List.set_cons_succ])); (refine wpAnyE_take (v := undef) (i := 3) (oi := ?_) ?_ (by kernel_rfl) ?_ ?_ (by assumption) ?_; rotate_left; (focus ((simp only [List.getElem?_toArray, List.getElem?_cons_succ, List.getElem?_cons_zero]; exact rfl))); (focus (exact fun _ _ _ h => h)); (focus (exact Or.inr ⟨by rfl, rfl⟩)); (try simp only [Act.put, List.setIfInBounds_toArray, List.set_cons_zero, List.set_cons_succ])); (refine wpAnyE_take (v := undef) (i := 4) (oi := ?_) ?_ (by kernel_rfl) ?_ ?_ (by assumption) ?_; rotate_left; (focus ((simp only [List.getElem?_toArray, List.getElem?_cons_succ, List.getElem?_cons_zero]; exact rfl))); (focus (exact fun _ _ _ h => h)); (focus (exact Or.inr ⟨by rfl, rfl⟩)); (try simp only [Act.put, List.setIfInBounds_toArray, List.set_cons_zero, List.set_cons_succ])); (refine wpAnyE_take (v := undef) (i := 5) (oi := ?_) ?_ (by kernel_rfl) ?_ ?_ (by assumption) ?_; rotate_left; (focus ((simp only [List.getElem?_toArray, List.getElem?_cons_succ, List.getElem?_cons_zero]; exact rfl))); (focus (exact fun _ _ _ h => h)); (focus (exact Or.inr ⟨by rfl, rfl⟩)); (try simp only [Act.put, List.setIfInBounds_toArray, List.set_cons_zero, List.set_cons_succ])); (refine wpAnyE_take (v := undef) (i := 6) (oi := ?_) ?_ (by kernel_rfl) ?_ ?_ (by assumption) ?_; rotate_left; (focus ((simp only [List.getElem?_toArray, List.getElem?_cons_succ, List.getElem?_cons_zero]; exact rfl))); (focus (exact fun _ _ _ h => h)); (focus (exact Or.inr ⟨by rfl, rfl⟩)); (try simp only [Act.put, List.setIfInBounds_toArray, List.set_cons_zero, List.set_cons_succ])); (refine wpAnyE_take (v := undef) (i := 7) (oi := ?_) ?_ (by kernel_rfl) ?_ ?_ (by assumption) ?_; rotate_left; (focus ((simp only [List.getElem?_toArray, List.getElem?_cons_succ, List.getElem?_cons_zero]; exact rfl))); (focus (exact fun _ _ _ h => h)); (focus (exact Or.inr ⟨by rfl, rfl⟩)); (try simp only [Act.put, List.setIfInBounds_toArray, List.set_cons_zero, List.set_cons_succ])); (refine wpAnyE_take (v := undef) (i := 8) (oi := ?_) ?_ (by kernel_rfl) ?_ ?_ (by assumption) ?_; rotate_left; (focus ((simp only [List.getElem?_toArray, List.getElem?_cons_succ, List.getElem?_cons_zero]; exact rfl))); (focus (exact fun _ _ _ h => h)); (focus (exact Or.inr ⟨by rfl, rfl⟩)); (try simp only [Act.put, List.setIfInBounds_toArray, List.set_cons_zero, List.set_cons_succ])); (refine wpAnyE_take (v := undef) (i := 9) (oi := ?_) ?_ (by kernel_rfl) ?_ ?_ (by assumption) ?_; rotate_left; (focus ((simp only [List.getElem?_toArray, List.getElem?_cons_succ, List.getElem?_cons_zero]; exact rfl))); (focus (exact fun _ _ _ h => h)); (focus (exact Or.inr ⟨by rfl, rfl⟩)); (try simp only [Act.put, List.setIfInBounds_toArray, List.set_cons_zero, List.set_cons_succ])); (refine wpAnyE_take (v := undef) (i := 10) (oi := ?_) ?_ (by kernel_rfl) ?_ ?_ (by assumption) ?_; rotate_left; (focus ((simp only [List.getElem?_toArray, List.getElem?_cons_succ, List.getElem?_cons_zero]; exact rfl))); (focus (exact fun _ _ _ h => h)); (focus (exact Or.inr ⟨by rfl, rfl⟩)); (try simp only [Act.put, List.setIfInBounds_toArray, List.set_cons_zero, List.set_cons_succ])); (refine wpAnyE_take (v := undef) (i := 11) (oi := ?_) ?_ (by kernel_rfl) ?_ ?_ (by assumption) ?_; rotate_left; (focus ((simp only [List.getElem?_toArray, List.getElem?_cons_succ, List.getElem?_cons_zero]; exact rfl))); (focus (exact fun _ _ _ h => h)); (focus (exact Or.inr ⟨by rfl, rfl⟩)); (try simp only [Act.put, List.setIfInBounds_toArray, List.set_cons_zero, List.set_cons_succ])); (refine wpAnyE_take (v := undef) (i := 12) (oi := ?_) ?_ (by kernel_rfl) ?_ ?_ (by assumption) ?_; rotate_left; (focus ((simp only [List.getElem?_toArray, List.getElem?_cons_succ, List.getElem?_cons_zero]; exact rfl))); (focus (exact fun _ _ _ h => h)); (focus (exact Or.inr ⟨by rfl, rfl⟩)); (try simp only [Act.put, List.setIfInBounds_toArray, List.set_cons_zero, List.set_cons_succ])); (refine wpAnyE_take (v := undef) (i := 13) (oi := ?_) ?_ (by kernel_rfl) ?_ ?_ (by assumption) ?_; rotate_left; (focus ((simp only [List.getElem?_toArray, List.getElem?_cons_succ, List.getElem?_cons_zero]; exact rfl))); (focus (exact fun _ _ _ h => h)); (focus (exact Or.inr ⟨by rfl, rfl⟩)); (try simp only [Act.put, List.setIfInBounds_toArray, List.set_cons_zero, List.set_cons_succ])); (refine wpAnyE_take (v := undef) (i := 14) (oi := ?_) ?_ (by kernel_rfl) ?_ ?_ (by assumption) ?_; rotate_left; (focus ((simp only [List.getElem?_toArray, List.getElem?_cons_succ, List.getElem?_cons_zero]; exact rfl))); (focus (exact fun _ _ _ h => h)); (focus (exact Or.inr ⟨by rfl, rfl⟩)); (try simp only [Act.put, List.setIfInBounds_toArray, List.set_cons_zero, List.set_cons_succ])); (refine wpAnyE_take (v := undef) (i := 15) (oi := ?_) ?_ (by kernel_rfl) ?_ ?_ (by assumption) ?_; rotate_left; (focus ((simp only [List.getElem?_toArray, List.getElem?_cons_succ, List.getElem?_cons_zero]; exact rfl))); (focus (exact fun _ _ _ h => h)); (focus (exact Or.inr ⟨by rfl, rfl⟩)); (try simp only [Act.put, List.setIfInBounds_toArray, List.set_cons_zero, List.set_cons_succ])))
            (refine wpAnyE_one (i := 16) (o := ?_) ?_ (by kernel_rfl) (fun K hK => ?_); rotate_left; (focus ((simp only [List.getElem?_toArray, List.getElem?_cons_succ, List.getElem?_cons_zero]; exact rfl))); go_simp; refine hK.out _ _ ?_ (fun hHeld => ?_); rotate_left; clear hK K; (try simp only [Act.put, List.setIfInBounds_toArray, List.set_cons_zero, List.set_cons_succ]))
            rotate_left
            · exact hS
            ((refine wpAnyE_take (v := undef) (i := 17) (oi := ?_) ?_ (by kernel_rfl) ?_ ?_ (by assumption) ?_; rotate_left; (focus ((simp only [List.getElem?_toArray, List.getElem?_cons_succ, List.getElem?_cons_zero]; exact rfl))); (focus (exact fun _ _ _ h => h)); (focus (exact Or.inr ⟨by rfl, rfl⟩)); (try simp only [Act.put, List.setIfInBounds_toArray, List.set_cons_zero, List.set_cons_succ])); (refine wpAnyE_take (v := undef) (i := 18) (oi := ?_) ?_ (by kernel_rfl) ?_ ?_ (by assumption) ?_; rotate_left; (focus ((simp only [List.getElem?_toArray, List.getElem?_cons_succ, List.getElem?_cons_zero]; exact rfl))); (focus (exact fun _ _ _ h => h)); (focus (exact Or.inr ⟨by rfl, rfl⟩)); (try simp only [Act.put, List.setIfInBounds_toArray, List.set_cons_zero, List.set_cons_succ])); (refine wpAnyE_take (v := undef) (i := 19) (oi := ?_) ?_ (by kernel_rfl) ?_ ?_ (by assumption) ?_; rotate_left; (focus ((simp only [List.getElem?_toArray, List.getElem?_cons_succ, List.getElem?_cons_zero]; exact rfl))); (focus (exact fun _ _ _ h => h)); (focus (exact Or.inr ⟨by rfl, rfl⟩)); (try simp only [Act.put, List.setIfInBounds_toArray, List.set_cons_zero, List.set_cons_succ])); (refine wpAnyE_take (v := undef) (i := 20) (oi := ?_) ?_ (by kernel_rfl) ?_ ?_ (by assumption) ?_; rotate_left; (focus ((simp only [List.getElem?_toArray, List.getElem?_cons_succ, List.getElem?_cons_zero]; exact rfl))); (focus (exact fun _ _ _ h => h)); (focus (exact Or.inr ⟨by rfl, rfl⟩)); (try simp only [Act.put, List.setIfInBounds_toArray, List.set_cons_zero, List.set_cons_succ])); (refine wpAnyE_take (v := undef) (i := 21) (oi := ?_) ?_ (by kernel_rfl) ?_ ?_ (by assumption) ?_; rotate_left; (focus ((simp only [List.getElem?_toArray, List.getElem?_cons_succ, List.getElem?_cons_zero]; exact rfl))); (focus (exact fun _ _ _ h => h)); (focus (exact Or.inr ⟨by rfl, rfl⟩)); (try simp only [Act.put, List.setIfInBounds_toArray, List.set_cons_zero, List.set_cons_succ])); (refine wpAnyE_take (v := undef) (i := 22) (oi := ?_) ?_ (by kernel_rfl) ?_ ?_ (by assumption) ?_; rotate_left; (focus ((simp only [List.getElem?_toArray, List.getElem?_cons_succ, List.getElem?_cons_zero]; exact rfl))); (focus (exact fun _ _ _ h => h)); (focus (exact Or.inr ⟨by rfl, rfl⟩)); (try simp only [Act.put, List.setIfInBounds_toArray, List.set_cons_zero, List.set_cons_succ])); (refine wpAnyE_take (v := undef) (i := 23) (oi := ?_) ?_ (by kernel_rfl) ?_ ?_ (by assumption) ?_; rotate_left; (focus ((simp only [List.getElem?_toArray, List.getElem?_cons_succ, List.getElem?_cons_zero]; exact rfl))); (focus (exact fun _ _ _ h => h)); (focus (exact Or.inr ⟨by rfl, rfl⟩)); (try simp only [Act.put, List.setIfInBounds_toArray, List.set_cons_zero, List.set_cons_succ])); (refine wpAnyE_take (v := undef) (i := 24) (oi := ?_) ?_ (by kernel_rfl) ?_ ?_ (by assumption) ?_; rotate_left; (focus ((simp only [List.getElem?_toArray, List.getElem?_cons_succ, List.getElem?_cons_zero]; exact rfl))); (focus (exact fun _ _ _ h => h)); (focus (exact Or.inr ⟨by rfl, rfl⟩)); (try simp only [Act.put, List.setIfInBounds_toArray, List.set_cons_zero, List.set_cons_succ])); (refine wpAnyE_take (v := undef) (i := 25) (oi := ?_) ?_ (by kernel_rfl) ?_ ?_ (by assumption) ?_; rotate_left; (focus ((simp only [List.getElem?_toArray, List.getElem?_cons_succ, List.getElem?_cons_zero]; exact rfl))); (focus (exact fun _ _ _ h => h)); (focus (exact Or.inr ⟨by rfl, rfl⟩)); (try simp only [Act.put, List.setIfInBounds_toArray, List.set_cons_zero, List.set_cons_succ])); (refine wpAnyE_take (v := undef) (i := 26) (oi := ?_) ?_ (by kernel_rfl) ?_ ?_ (by assumption) ?_; rotate_left; (focus ((simp only [List.getElem?_toArray, List.getElem?_cons_succ, List.getElem?_cons_zero]; exact rfl))); (focus (exact fun _ _ _ h => h)); (focus (exact Or.inr ⟨by rfl, rfl⟩)); (try simp only [Act.put, List.setIfInBounds_toArray, List.set_cons_zero, List.set_cons_succ])); (refine wpAnyE_take (v := undef) (i := 27) (oi := ?_) ?_ (by kernel_rfl) ?_ ?_ (by assumption) ?_; rotate_left; (focus ((simp only [List.getElem?_toArray, List.getElem?_cons_succ, List.getElem?_cons_zero]; exact rfl))); (focus (exact fun _ _ _ h => h)); (focus (exact Or.inr ⟨by rfl, rfl⟩)); (try simp only [Act.put, List.setIfInBounds_toArray, List.set_cons_zero, List.set_cons_succ])); (refine wpAnyE_take (v := undef) (i := 28) (oi := ?_) ?_ (by kernel_rfl) ?_ ?_ (by assumption) ?_; rotate_left; (focus ((simp only [List.getElem?_toArray, List.getElem?_cons_succ, List.getElem?_cons_zero]; exact rfl))); (focus (exact fun _ _ _ h => h)); (focus (exact Or.inr ⟨by rfl, rfl⟩)); (try simp only [Act.put, List.setIfInBounds_toArray, List.set_cons_zero, List.set_cons_succ])); (refine wpAnyE_take (v := undef) (i := 29) (oi := ?_) ?_ (by kernel_rfl) ?_ ?_ (by assumption) ?_; rotate_left; (focus ((simp only [List.getElem?_toArray, List.getElem?_cons_succ, List.getElem?_cons_zero]; exact rfl))); (focus (exact fun _ _ _ h => h)); (focus (exact Or.inr ⟨by rfl, rfl⟩)); (try simp only [Act.put, List.setIfInBounds_toArray, List.set_cons_zero, List.set_cons_succ])); (refine wpAnyE_take (v := undef) (i := 30) (oi := ?_) ?_ (by kernel_rfl) ?_ ?_ (by assumption) ?_; rotate_left; (focus ((simp only [List.getElem?_toArray, List.getElem?_cons_succ, List.getElem?_cons_zero]; exact rfl))); (focus (exact fun _ _ _ h => h)); (focus (exact Or.inr ⟨by rfl, rfl⟩)); (try simp only [Act.put, List.setIfInBounds_toArray, List.set_cons_zero, List.set_cons_succ])); (refine wpAnyE_take (v := undef) (i := 31) (oi := ?_) ?_ (by kernel_rfl) ?_ ?_ (by assumption) ?_; rotate_left; (focus ((simp only [List.getElem?_toArray, List.getElem?_cons_succ, List.getElem?_cons_zero]; exact rfl))); (focus (exact fun _ _ _ h => h)); (focus (exact Or.inr ⟨by rfl, rfl⟩)); (try simp only [Act.put, List.setIfInBounds_toArray, List.set_cons_zero, List.set_cons_succ])); (refine wpAnyE_take (v := undef) (i := 32) (oi := ?_) ?_ (by kernel_rfl) ?_ ?_ (by assumption) ?_; rotate_left; (focus ((simp only [List.getElem?_toArray, List.getElem?_cons_succ, List.getElem?_cons_zero]; exact rfl))); (focus (exact fun _ _ _ h => h)); (focus (exact Or.inr ⟨by rfl, rfl⟩)); (try simp only [Act.put, List.setIfInBounds_toArray, List.set_cons_zero, List.set_cons_succ])))
            (refine wpAnyE_one (i := 33) (o := ?_) ?_ (by kernel_rfl) (fun K hK => ?_); rotate_left; (focus ((simp only [List.getElem?_toArray, List.getElem?_cons_succ, List.getElem?_cons_zero]; exact rfl))); go_simp; refine hK.out _ _ ?_ (fun hHeld => ?_); rotate_left; clear hK K; (try simp only [Act.put, List.setIfInBounds_toArray, List.set_cons_zero, List.set_cons_succ]))
            rotate_left
            · exact hS
            ((refine wpAnyE_take (v := undef) (i := 34) (oi := ?_) ?_ (by kernel_rfl) ?_ ?_ (by assumption) ?_; rotate_left; (focus ((simp only [List.getElem?_toArray, List.getElem?_cons_succ, List.getElem?_cons_zero]; exact rfl))); (focus (exact fun _ _ _ h => h)); (focus (exact Or.inr ⟨by rfl, rfl⟩)); (try simp only [Act.put, List.setIfInBounds_toArray, List.set_cons_zero, List.set_cons_succ])); (refine wpAnyE_take (v := undef) (i := 35) (oi := ?_) ?_ (by kernel_rfl) ?_ ?_ (by assumption) ?_; rotate_left; (focus ((simp only [List.getElem?_toArray, List.getElem?_cons_succ, List.getElem?_cons_zero]; exact rfl))); (focus (exact fun _ _ _ h => h)); (focus (exact Or.inr ⟨by rfl, rfl⟩)); (try simp only [Act.put, List.setIfInBounds_toArray, List.set_cons_zero, List.set_cons_succ])); (refine wpAnyE_take (v := undef) (i := 36) (oi := ?_) ?_ (by kernel_rfl) ?_ ?_ (by assumption) ?_; rotate_left; (focus ((simp only [List.getElem?_toArray, List.getElem?_cons_succ, List.getElem?_cons_zero]; exact rfl))); (focus (exact fun _ _ _ h => h)); (focus (exact Or.inr ⟨by rfl, rfl⟩)); (try simp only [Act.put, List.setIfInBounds_toArray, List.set_cons_zero, List.set_cons_succ])))
            ((refine ePu 37 ?_); (refine ePu 38 ?_))
            refine wpAnyE_done (by kernel_rfl) ?_ _
            go_wp2
            exact ⟨⟨j + 1, by omega, by go_num, by rw [HF.out], hx.trans ED⟩, by simp [intOf]; omega⟩
          by_cases hjk : j = k
          · have HF : Hid (foundT pks k (j + 1) = false) := by show _ = _; rw [HSC.out, hself hjk]; rfl
            subst hjk
            clear hbj hself
            go_wp2_with fail
            refine wp_region_heldE 99 (fun w' => w'.cell? ⟨w.heap.size, 0, none⟩ = some (.slice (some ⟨b3, o3, none⟩) N pc) ∧ w'.cell? ⟨b3, o3 + j * 3, none⟩ = some (.slice ai K ci) ∧ w'.cell? ⟨b3, o3 + j * 3 + 1, none⟩ = some (.int .i64 y.price) ∧ w'.cell? ⟨b3, o3 + j * 3 + 2, none⟩ = some (.int .i64 y.most) ∧ w'.cell? ⟨b3, o3 + j * 3, none⟩ = some (.slice ak K ck) ∧ w'.cell? ⟨b3, o3 + j * 3 + 1, none⟩ = some (.int .i64 p.price) ∧ w'.cell? ⟨b3, o3 + j * 3 + 2, none⟩ = some (.int .i64 p.most)) (by kernel_rfl) ?_
            have ED : Ext wr wr.drew := (Ext.refl _).drew
            have hS := show _ ∧ _ ∧ _ ∧ _ ∧ _ ∧ _ ∧ _ from ⟨ED.cell a1', ED.cell c1, ED.cell c2, ED.cell c3, ED.cell d1, ED.cell d2, ED.cell d3⟩
            clear a1' c1 c2 c3 d1 d2 d3
            generalize wr.drew = w2 at hS ED ⊢
            obtain ⟨s0, s1, s2, s3, s4, s5, s6⟩ := hS
            have z1 := cell_lt s0
            have z2 := cell_lt s1
            have z3 := cell_lt s4
            dsimp only at z1 z2 z3
            have hS := show _ ∧ _ ∧ _ ∧ _ ∧ _ ∧ _ ∧ _ from ⟨s0, s1, s2, s3, s4, s5, s6⟩
            ((refine ePu 0 ?_); (refine ePu 1 ?_); (refine ePu 2 ?_); (refine ePu 3 ?_))
            (refine wpAnyE_pure (v := .bool false) (i := 4) (oi := ?_) ?_ (by kernel_rfl) ?_ ?_ ?_ ?_; rotate_left; (focus ((simp only [List.getElem?_toArray, List.getElem?_cons_succ, List.getElem?_cons_zero]; exact rfl))); (focus (exact fun _ _ _ h => h)); (focus (refine Or.inl ⟨by rfl, ?_⟩; intro w hSw; clear hSw; go_simp)); (focus (first | exact (fun _ => by assumption) | (intro hlst; exact absurd hlst (by kernel_rfl)) | (intro hlst; cases hlst))); (try simp only [Act.put, List.setIfInBounds_toArray, List.set_cons_zero, List.set_cons_succ]))
            ((refine ePu 5 ?_))
            ((refine wpAnyE_take (v := undef) (i := 6) (oi := ?_) ?_ (by kernel_rfl) ?_ ?_ (by assumption) ?_; rotate_left; (focus ((simp only [List.getElem?_toArray, List.getElem?_cons_succ, List.getElem?_cons_zero]; exact rfl))); (focus (exact fun _ _ _ h => h)); (focus (exact Or.inr ⟨by rfl, rfl⟩)); (try simp only [Act.put, List.setIfInBounds_toArray, List.set_cons_zero, List.set_cons_succ])); (refine wpAnyE_take (v := undef) (i := 7) (oi := ?_) ?_ (by kernel_rfl) ?_ ?_ (by assumption) ?_; rotate_left; (focus ((simp only [List.getElem?_toArray, List.getElem?_cons_succ, List.getElem?_cons_zero]; exact rfl))); (focus (exact fun _ _ _ h => h)); (focus (exact Or.inr ⟨by rfl, rfl⟩)); (try simp only [Act.put, List.setIfInBounds_toArray, List.set_cons_zero, List.set_cons_succ])); (refine wpAnyE_take (v := undef) (i := 8) (oi := ?_) ?_ (by kernel_rfl) ?_ ?_ (by assumption) ?_; rotate_left; (focus ((simp only [List.getElem?_toArray, List.getElem?_cons_succ, List.getElem?_cons_zero]; exact rfl))); (focus (exact fun _ _ _ h => h)); (focus (exact Or.inr ⟨by rfl, rfl⟩)); (try simp only [Act.put, List.setIfInBounds_toArray, List.set_cons_zero, List.set_cons_succ])); (refine wpAnyE_take (v := undef) (i := 9) (oi := ?_) ?_ (by kernel_rfl) ?_ ?_ (by assumption) ?_; rotate_left; (focus ((simp only [List.getElem?_toArray, List.getElem?_cons_succ, List.getElem?_cons_zero]; exact rfl))); (focus (exact fun _ _ _ h => h)); (focus (exact Or.inr ⟨by rfl, rfl⟩)); (try simp only [Act.put, List.setIfInBounds_toArray, List.set_cons_zero, List.set_cons_succ])); (refine wpAnyE_take (v := undef) (i := 10) (oi := ?_) ?_ (by kernel_rfl) ?_ ?_ (by assumption) ?_; rotate_left; (focus ((simp only [List.getElem?_toArray, List.getElem?_cons_succ, List.getElem?_cons_zero]; exact rfl))); (focus (exact fun _ _ _ h => h)); (focus (exact Or.inr ⟨by rfl, rfl⟩)); (try simp only [Act.put, List.setIfInBounds_toArray, List.set_cons_zero, List.set_cons_succ])); (refine wpAnyE_take (v := undef) (i := 11) (oi := ?_) ?_ (by kernel_rfl) ?_ ?_ (by assumption) ?_; rotate_left; (focus ((simp only [List.getElem?_toArray, List.getElem?_cons_succ, List.getElem?_cons_zero]; exact rfl))); (focus (exact fun _ _ _ h => h)); (focus (exact Or.inr ⟨by rfl, rfl⟩)); (try simp only [Act.put, List.setIfInBounds_toArray, List.set_cons_zero, List.set_cons_succ])); (refine wpAnyE_take (v := undef) (i := 12) (oi := ?_) ?_ (by kernel_rfl) ?_ ?_ (by assumption) ?_; rotate_left; (focus ((simp only [List.getElem?_toArray, List.getElem?_cons_succ, List.getElem?_cons_zero]; exact rfl))); (focus (exact fun _ _ _ h => h)); (focus (exact Or.inr ⟨by rfl, rfl⟩)); (try simp only [Act.put, List.setIfInBounds_toArray, List.set_cons_zero, List.set_cons_succ])); (refine wpAnyE_take (v := undef) (i := 13) (oi := ?_) ?_ (by kernel_rfl) ?_ ?_ (by assumption) ?_; rotate_left; (focus ((simp only [List.getElem?_toArray, List.getElem?_cons_succ, List.getElem?_cons_zero]; exact rfl))); (focus (exact fun _ _ _ h => h)); (focus (exact Or.inr ⟨by rfl, rfl⟩)); (try simp only [Act.put, List.setIfInBounds_toArray, List.set_cons_zero, List.set_cons_succ])); (refine wpAnyE_take (v := undef) (i := 14) (oi := ?_) ?_ (by kernel_rfl) ?_ ?_ (by assumption) ?_; rotate_left; (focus ((simp only [List.getElem?_toArray, List.getElem?_cons_succ, List.getElem?_cons_zero]; exact rfl))); (focus (exact fun _ _ _ h => h)); (focus (exact Or.inr ⟨by rfl, rfl⟩)); (try simp only [Act.put, List.setIfInBounds_toArray, List.set_cons_zero, List.set_cons_succ])); (refine wpAnyE_take (v := undef) (i := 15) (oi := ?_) ?_ (by kernel_rfl) ?_ ?_ (by assumption) ?_; rotate_left; (focus ((simp only [List.getElem?_toArray, List.getElem?_cons_succ, List.getElem?_cons_zero]; exact rfl))); (focus (exact fun _ _ _ h => h)); (focus (exact Or.inr ⟨by rfl, rfl⟩)); (try simp only [Act.put, List.setIfInBounds_toArray, List.set_cons_zero, List.set_cons_succ])))
            (refine wpAnyE_one (i := 16) (o := ?_) ?_ (by kernel_rfl) (fun K hK => ?_); rotate_left; (focus ((simp only [List.getElem?_toArray, List.getElem?_cons_succ, List.getElem?_cons_zero]; exact rfl))); go_simp; refine hK.out _ _ ?_ (fun hHeld => ?_); rotate_left; clear hK K; (try simp only [Act.put, List.setIfInBounds_toArray, List.set_cons_zero, List.set_cons_succ]))
            rotate_left
            · exact hS
            ((refine ePu 17 ?_); (refine ePu 18 ?_))
            ((refine wpAnyE_take (v := undef) (i := 19) (oi := ?_) ?_ (by kernel_rfl) ?_ ?_ (by assumption) ?_; rotate_left; (focus ((simp only [List.getElem?_toArray, List.getElem?_cons_succ, List.getElem?_cons_zero]; exact rfl))); (focus (exact fun _ _ _ h => h)); (focus (exact Or.inr ⟨by rfl, rfl⟩)); (try simp only [Act.put, List.setIfInBounds_toArray, List.set_cons_zero, List.set_cons_succ])); (refine wpAnyE_take (v := undef) (i := 20) (oi := ?_) ?_ (by kernel_rfl) ?_ ?_ (by assumption) ?_; rotate_left; (focus ((simp only [List.getElem?_toArray, List.getElem?_cons_succ, List.getElem?_cons_zero]; exact rfl))); (focus (exact fun _ _ _ h => h)); (focus (exact Or.inr ⟨by rfl, rfl⟩)); (try simp only [Act.put, List.setIfInBounds_toArray, List.set_cons_zero, List.set_cons_succ])); (refine wpAnyE_take (v := undef) (i := 21) (oi := ?_) ?_ (by kernel_rfl) ?_ ?_ (by assumption) ?_; rotate_left; (focus ((simp only [List.getElem?_toArray, List.getElem?_cons_succ, List.getElem?_cons_zero]; exact rfl))); (focus (exact fun _ _ _ h => h)); (focus (exact Or.inr ⟨by rfl, rfl⟩)); (try simp only [Act.put, List.setIfInBounds_toArray, List.set_cons_zero, List.set_cons_succ])); (refine wpAnyE_take (v := undef) (i := 22) (oi := ?_) ?_ (by kernel_rfl) ?_ ?_ (by assumption) ?_; rotate_left; (focus ((simp only [List.getElem?_toArray, List.getElem?_cons_succ, List.getElem?_cons_zero]; exact rfl))); (focus (exact fun _ _ _ h => h)); (focus (exact Or.inr ⟨by rfl, rfl⟩)); (try simp only [Act.put, List.setIfInBounds_toArray, List.set_cons_zero, List.set_cons_succ])); (refine wpAnyE_take (v := undef) (i := 23) (oi := ?_) ?_ (by kernel_rfl) ?_ ?_ (by assumption) ?_; rotate_left; (focus ((simp only [List.getElem?_toArray, List.getElem?_cons_succ, List.getElem?_cons_zero]; exact rfl))); (focus (exact fun _ _ _ h => h)); (focus (exact Or.inr ⟨by rfl, rfl⟩)); (try simp only [Act.put, List.setIfInBounds_toArray, List.set_cons_zero, List.set_cons_succ])); (refine wpAnyE_take (v := undef) (i := 24) (oi := ?_) ?_ (by kernel_rfl) ?_ ?_ (by assumption) ?_; rotate_left; (focus ((simp only [List.getElem?_toArray, List.getElem?_cons_succ, List.getElem?_cons_zero]; exact rfl))); (focus (exact fun _ _ _ h => h)); (focus (exact Or.inr ⟨by rfl, rfl⟩)); (try simp only [Act.put, List.setIfInBounds_toArray, List.set_cons_zero, List.set_cons_succ])); (refine wpAnyE_take (v := undef) (i := 25) (oi := ?_) ?_ (by kernel_rfl) ?_ ?_ (by assumption) ?_; rotate_left; (focus ((simp only [List.getElem?_toArray, List.getElem?_cons_succ, List.getElem?_cons_zero]; exact rfl))); (focus (exact fun _ _ _ h => h)); (focus (exact Or.inr ⟨by rfl, rfl⟩)); (try simp only [Act.put, List.setIfInBounds_toArray, List.set_cons_zero, List.set_cons_succ])); (refine wpAnyE_take (v := undef) (i := 26) (oi := ?_) ?_ (by kernel_rfl) ?_ ?_ (by assumption) ?_; rotate_left; (focus ((simp only [List.getElem?_toArray, List.getElem?_cons_succ, List.getElem?_cons_zero]; exact rfl))); (focus (exact fun _ _ _ h => h)); (focus (exact Or.inr ⟨by rfl, rfl⟩)); (try simp only [Act.put, List.setIfInBounds_toArray, List.set_cons_zero, List.set_cons_succ])); (refine wpAnyE_take (v := undef) (i := 27) (oi := ?_) ?_ (by kernel_rfl) ?_ ?_ (by assumption) ?_; rotate_left; (focus ((simp only [List.getElem?_toArray, List.getElem?_cons_succ, List.getElem?_cons_zero]; exact rfl))); (focus (exact fun _ _ _ h => h)); (focus (exact Or.inr ⟨by rfl, rfl⟩)); (try simp only [Act.put, List.setIfInBounds_toArray, List.set_cons_zero, List.set_cons_succ])); (refine wpAnyE_take (v := undef) (i := 28) (oi := ?_) ?_ (by kernel_rfl) ?_ ?_ (by assumption) ?_; rotate_left; (focus ((simp only [List.getElem?_toArray, List.getElem?_cons_succ, List.getElem?_cons_zero]; exact rfl))); (focus (exact fun _ _ _ h => h)); (focus (exact Or.inr ⟨by rfl, rfl⟩)); (try simp only [Act.put, List.setIfInBounds_toArray, List.set_cons_zero, List.set_cons_succ])); (refine wpAnyE_take (v := undef) (i := 29) (oi := ?_) ?_ (by kernel_rfl) ?_ ?_ (by assumption) ?_; rotate_left; (focus ((simp only [List.getElem?_toArray, List.getElem?_cons_succ, List.getElem?_cons_zero]; exact rfl))); (focus (exact fun _ _ _ h => h)); (focus (exact Or.inr ⟨by rfl, rfl⟩)); (try simp only [Act.put, List.setIfInBounds_toArray, List.set_cons_zero, List.set_cons_succ])); (refine wpAnyE_take (v := undef) (i := 30) (oi := ?_) ?_ (by kernel_rfl) ?_ ?_ (by assumption) ?_; rotate_left; (focus ((simp only [List.getElem?_toArray, List.getElem?_cons_succ, List.getElem?_cons_zero]; exact rfl))); (focus (exact fun _ _ _ h => h)); (focus (exact Or.inr ⟨by rfl, rfl⟩)); (try simp only [Act.put, List.setIfInBounds_toArray, List.set_cons_zero, List.set_cons_succ])); (refine wpAnyE_take (v := undef) (i := 31) (oi := ?_) ?_ (by kernel_rfl) ?_ ?_ (by assumption) ?_; rotate_left; (focus ((simp only [List.getElem?_toArray, List.getElem?_cons_succ, List.getElem?_cons_zero]; exact rfl))); (focus (exact fun _ _ _ h => h)); (focus (exact Or.inr ⟨by rfl, rfl⟩)); (try simp only [Act.put, List.setIfInBounds_toArray, List.set_cons_zero, List.set_cons_succ])); (refine wpAnyE_take (v := undef) (i := 32) (oi := ?_) ?_ (by kernel_rfl) ?_ ?_ (by assumption) ?_; rotate_left; (focus ((simp only [List.getElem?_toArray, List.getElem?_cons_succ, List.getElem?_cons_zero]; exact rfl))); (focus (exact fun _ _ _ h => h)); (focus (exact Or.inr ⟨by rfl, rfl⟩)); (try simp only [Act.put, List.setIfInBounds_toArray, List.set_cons_zero, List.set_cons_succ])))
            (refine wpAnyE_one (i := 33) (o := ?_) ?_ (by kernel_rfl) (fun K hK => ?_); rotate_left; (focus ((simp only [List.getElem?_toArray, List.getElem?_cons_succ, List.getElem?_cons_zero]; exact rfl))); go_simp; refine hK.out _ _ ?_ (fun hHeld => ?_); rotate_left; clear hK K; (try simp only [Act.put, List.setIfInBounds_toArray, List.set_cons_zero, List.set_cons_succ]))
            rotate_left
            · exact hS
            ((refine wpAnyE_take (v := undef) (i := 34) (oi := ?_) ?_ (by kernel_rfl) ?_ ?_ (by assumption) ?_; rotate_left; (focus ((simp only [List.getElem?_toArray, List.getElem?_cons_succ, List.getElem?_cons_zero]; exact rfl))); (focus (exact fun _ _ _ h => h)); (focus (exact Or.inr ⟨by rfl, rfl⟩)); (try simp only [Act.put, List.setIfInBounds_toArray, List.set_cons_zero, List.set_cons_succ])); (refine wpAnyE_take (v := undef) (i := 35) (oi := ?_) ?_ (by kernel_rfl) ?_ ?_ (by assumption) ?_; rotate_left; (focus ((simp only [List.getElem?_toArray, List.getElem?_cons_succ, List.getElem?_cons_zero]; exact rfl))); (focus (exact fun _ _ _ h => h)); (focus (exact Or.inr ⟨by rfl, rfl⟩)); (try simp only [Act.put, List.setIfInBounds_toArray, List.set_cons_zero, List.set_cons_succ])))
            ((refine ePu 36 ?_); (refine ePu 37 ?_); (refine ePu 38 ?_))
            refine wpAnyE_done (by kernel_rfl) ?_ _
            go_wp2
            exact ⟨⟨j + 1, by omega, by go_num, by rw [HF.out], hx.trans ED⟩, by simp [intOf]; omega⟩
          have k1 : ((j : Int) == (k : Int)) = false := by simp; omega
          have k2 : ¬ (j : Int) = (k : Int) := by omega
          have HBJ := Lib.hid (hbj hjk)
          clear hbj hself
          obtain ⟨v1, hv1⟩ : ∃ v1, coversS y p = v1 := ⟨_, rfl⟩
          obtain ⟨v2, hv2⟩ : ∃ v2, coversS p y = v2 := ⟨_, rfl⟩
          rw [hv1] at HB1 HBJ
          rw [hv2] at HB2 HBJ
          clear hv1 hv2
          cases v1
          case false =>
            have HF : Hid (foundT pks k (j + 1) = false) := by show _ = _; rw [HSC.out, HBJ.out]; rfl
            go_wp2_with fail
            refine wp_region_heldE 99 (fun w' => w'.cell? ⟨w.heap.size, 0, none⟩ = some (.slice (some ⟨b3, o3, none⟩) N pc) ∧ w'.cell? ⟨b3, o3 + j * 3, none⟩ = some (.slice ai K ci) ∧ w'.cell? ⟨b3, o3 + j * 3 + 1, none⟩ = some (.int .i64 y.price) ∧ w'.cell? ⟨b3, o3 + j * 3 + 2, none⟩ = some (.int .i64 y.most) ∧ w'.cell? ⟨b3, o3 + k * 3, none⟩ = some (.slice ak K ck) ∧ w'.cell? ⟨b3, o3 + k * 3 + 1, none⟩ = some (.int .i64 p.price) ∧ w'.cell? ⟨b3, o3 + k * 3 + 2, none⟩ = some (.int .i64 p.most)) (by kernel_rfl) ?_
            have ED : Ext wr wr.drew := (Ext.refl _).drew
            have hS := show _ ∧ _ ∧ _ ∧ _ ∧ _ ∧ _ ∧ _ from ⟨ED.cell a1', ED.cell c1, ED.cell c2, ED.cell c3, ED.cell d1, ED.cell d2, ED.cell d3⟩
            clear a1' c1 c2 c3 d1 d2 d3
            generalize wr.drew = w2 at hS ED ⊢
            obtain ⟨s0, s1, s2, s3, s4, s5, s6⟩ := hS
            have z1 := cell_lt s0
            have z2 := cell_lt s1
            have z3 := cell_lt s4
            dsimp only at z1 z2 z3
            have hS := show _ ∧ _ ∧ _ ∧ _ ∧ _ ∧ _ ∧ _ from ⟨s0, s1, s2, s3, s4, s5, s6⟩
            ((refine ePu 0 ?_); (refine ePu 1 ?_); (refine ePu 2 ?_); (refine ePu 3 ?_))
            (refine wpAnyE_pure (v := .bool true) (i := 4) (oi := ?_) ?_ (by kernel_rfl) ?_ ?_ ?_ ?_; rotate_left; (focus ((simp only [List.getElem?_toArray, List.getElem?_cons_succ, List.getElem?_cons_zero]; exact rfl))); (focus (exact fun _ _ _ h => h)); (focus (refine Or.inl ⟨by rfl, ?_⟩; intro w hSw; clear hSw; go_simp)); (focus (first | exact (fun _ => by assumption) | (intro hlst; exact absurd hlst (by kernel_rfl)) | (intro hlst; cases hlst))); (try simp only [Act.put, List.setIfInBounds_toArray, List.set_cons_zero, List.set_cons_succ]))
            ((refine ePu 5 ?_))
            ((refine eTk 6 ?_); (refine eTk 7 ?_); (refine eTk 8 ?_); (refine eTk 9 ?_); (refine eTk 10 ?_); (refine eTk 11 ?_); (refine eTk 12 ?_); (refine eTk 13 ?_); (refine eTk 14 ?_); (refine eTk 15 ?_))
            (refine wpAnyE_one (i := 16) (o := ?_) ?_ (by kernel_rfl) (fun K hK => ?_); rotate_left; (focus ((simp only [List.getElem?_toArray, List.getElem?_cons_succ, List.getElem?_cons_zero]; exact rfl))); go_simp; go_at_call 70; refine (HB1.out _ ED).mono ?_; rintro e w3 ⟨rfl, hE⟩; go_wp2_with fail; refine hK.out _ _ ?_ (fun hHeld => ?_); rotate_left; clear hK K; (try simp only [Act.put, List.setIfInBounds_toArray, List.set_cons_zero, List.set_cons_succ]))
            rotate_left
            · exact ⟨hE.cell s0, hE.cell s1, hE.cell s2, hE.cell s3, hE.cell s4, hE.cell s5, hE.cell s6⟩
            replace hS := hHeld
            replace ED := ED.trans hE
            clear hE s0 s1 s2 s3 s4 s5 s6 hHeld
            obtain ⟨s0, s1, s2, s3, s4, s5, s6⟩ := hS
            have z1 := cell_lt s0
            have z2 := cell_lt s1
            have z3 := cell_lt s4
            dsimp only at z1 z2 z3
            have hS := show _ ∧ _ ∧ _ ∧ _ ∧ _ ∧ _ ∧ _ from ⟨s0, s1, s2, s3, s4, s5, s6⟩
            ((refine ePu 17 ?_); (refine ePu 18 ?_))
            ((refine wpAnyE_take (v := undef) (i := 19) (oi := ?_) ?_ (by kernel_rfl) ?_ ?_ (by assumption) ?_; rotate_left; (focus ((simp only [List.getElem?_toArray, List.getElem?_cons_succ, List.getElem?_cons_zero]; exact rfl))); (focus (exact fun _ _ _ h => h)); (focus (exact Or.inr ⟨by rfl, rfl⟩)); (try simp only [Act.put, List.setIfInBounds_toArray, List.set_cons_zero, List.set_cons_succ])); (refine wpAnyE_take (v := undef) (i := 20) (oi := ?_) ?_ (by kernel_rfl) ?_ ?_ (by assumption) ?_; rotate_left; (focus ((simp only [List.getElem?_toArray, List.getElem?_cons_succ, List.getElem?_cons_zero]; exact rfl))); (focus (exact fun _ _ _ h => h)); (focus (exact Or.inr ⟨by rfl, rfl⟩)); (try simp only [Act.put, List.setIfInBounds_toArray, List.set_cons_zero, List.set_cons_succ])); (refine wpAnyE_take (v := undef) (i := 21) (oi := ?_) ?_ (by kernel_rfl) ?_ ?_ (by assumption) ?_; rotate_left; (focus ((simp only [List.getElem?_toArray, List.getElem?_cons_succ, List.getElem?_cons_zero]; exact rfl))); (focus (exact fun _ _ _ h => h)); (focus (exact Or.inr ⟨by rfl, rfl⟩)); (try simp only [Act.put, List.setIfInBounds_toArray, List.set_cons_zero, List.set_cons_succ])); (refine wpAnyE_take (v := undef) (i := 22) (oi := ?_) ?_ (by kernel_rfl) ?_ ?_ (by assumption) ?_; rotate_left; (focus ((simp only [List.getElem?_toArray, List.getElem?_cons_succ, List.getElem?_cons_zero]; exact rfl))); (focus (exact fun _ _ _ h => h)); (focus (exact Or.inr ⟨by rfl, rfl⟩)); (try simp only [Act.put, List.setIfInBounds_toArray, List.set_cons_zero, List.set_cons_succ])); (refine wpAnyE_take (v := undef) (i := 23) (oi := ?_) ?_ (by kernel_rfl) ?_ ?_ (by assumption) ?_; rotate_left; (focus ((simp only [List.getElem?_toArray, List.getElem?_cons_succ, List.getElem?_cons_zero]; exact rfl))); (focus (exact fun _ _ _ h => h)); (focus (exact Or.inr ⟨by rfl, rfl⟩)); (try simp only [Act.put, List.setIfInBounds_toArray, List.set_cons_zero, List.set_cons_succ])); (refine wpAnyE_take (v := undef) (i := 24) (oi := ?_) ?_ (by kernel_rfl) ?_ ?_ (by assumption) ?_; rotate_left; (focus ((simp only [List.getElem?_toArray, List.getElem?_cons_succ, List.getElem?_cons_zero]; exact rfl))); (focus (exact fun _ _ _ h => h)); (focus (exact Or.inr ⟨by rfl, rfl⟩)); (try simp only [Act.put, List.setIfInBounds_toArray, List.set_cons_zero, List.set_cons_succ])); (refine wpAnyE_take (v := undef) (i := 25) (oi := ?_) ?_ (by kernel_rfl) ?_ ?_ (by assumption) ?_; rotate_left; (focus ((simp only [List.getElem?_toArray, List.getElem?_cons_succ, List.getElem?_cons_zero]; exact rfl))); (focus (exact fun _ _ _ h => h)); (focus (exact Or.inr ⟨by rfl, rfl⟩)); (try simp only [Act.put, List.setIfInBounds_toArray, List.set_cons_zero, List.set_cons_succ])); (refine wpAnyE_take (v := undef) (i := 26) (oi := ?_) ?_ (by kernel_rfl) ?_ ?_ (by assumption) ?_; rotate_left; (focus ((simp only [List.getElem?_toArray, List.getElem?_cons_succ, List.getElem?_cons_zero]; exact rfl))); (focus (exact fun _ _ _ h => h)); (focus (exact Or.inr ⟨by rfl, rfl⟩)); (try simp only [Act.put, List.setIfInBounds_toArray, List.set_cons_zero, List.set_cons_succ])); (refine wpAnyE_take (v := undef) (i := 27) (oi := ?_) ?_ (by kernel_rfl) ?_ ?_ (by assumption) ?_; rotate_left; (focus ((simp only [List.getElem?_toArray, List.getElem?_cons_succ, List.getElem?_cons_zero]; exact rfl))); (focus (exact fun _ _ _ h => h)); (focus (exact Or.inr ⟨by rfl, rfl⟩)); (try simp only [Act.put, List.setIfInBounds_toArray, List.set_cons_zero, List.set_cons_succ])); (refine wpAnyE_take (v := undef) (i := 28) (oi := ?_) ?_ (by kernel_rfl) ?_ ?_ (by assumption) ?_; rotate_left; (focus ((simp only [List.getElem?_toArray, List.getElem?_cons_succ, List.getElem?_cons_zero]; exact rfl))); (focus (exact fun _ _ _ h => h)); (focus (exact Or.inr ⟨by rfl, rfl⟩)); (try simp only [Act.put, List.setIfInBounds_toArray, List.set_cons_zero, List.set_cons_succ])); (refine wpAnyE_take (v := undef) (i := 29) (oi := ?_) ?_ (by kernel_rfl) ?_ ?_ (by assumption) ?_; rotate_left; (focus ((simp only [List.getElem?_toArray, List.getElem?_cons_succ, List.getElem?_cons_zero]; exact rfl))); (focus (exact fun _ _ _ h => h)); (focus (exact Or.inr ⟨by rfl, rfl⟩)); (try simp only [Act.put, List.setIfInBounds_toArray, List.set_cons_zero, List.set_cons_succ])); (refine wpAnyE_take (v := undef) (i := 30) (oi := ?_) ?_ (by kernel_rfl) ?_ ?_ (by assumption) ?_; rotate_left; (focus ((simp only [List.getElem?_toArray, List.getElem?_cons_succ, List.getElem?_cons_zero]; exact rfl))); (focus (exact fun _ _ _ h => h)); (focus (exact Or.inr ⟨by rfl, rfl⟩)); (try simp only [Act.put, List.setIfInBounds_toArray, List.set_cons_zero, List.set_cons_succ])); (refine wpAnyE_take (v := undef) (i := 31) (oi := ?_) ?_ (by kernel_rfl) ?_ ?_ (by assumption) ?_; rotate_left; (focus ((simp only [List.getElem?_toArray, List.getElem?_cons_succ, List.getElem?_cons_zero]; exact rfl))); (focus (exact fun _ _ _ h => h)); (focus (exact Or.inr ⟨by rfl, rfl⟩)); (try simp only [Act.put, List.setIfInBounds_toArray, List.set_cons_zero, List.set_cons_succ])); (refine wpAnyE_take (v := undef) (i := 32) (oi := ?_) ?_ (by kernel_rfl) ?_ ?_ (by assumption) ?_; rotate_left; (focus ((simp only [List.getElem?_toArray, List.getElem?_cons_succ, List.getElem?_cons_zero]; exact rfl))); (focus (exact fun _ _ _ h => h)); (focus (exact Or.inr ⟨by rfl, rfl⟩)); (try simp only [Act.put, List.setIfInBounds_toArray, List.set_cons_zero, List.set_cons_succ])))
            (refine wpAnyE_one (i := 33) (o := ?_) ?_ (by kernel_rfl) (fun K hK => ?_); rotate_left; (focus ((simp only [List.getElem?_toArray, List.getElem?_cons_succ, List.getElem?_cons_zero]; exact rfl))); go_simp; refine hK.out _ _ ?_ (fun hHeld => ?_); rotate_left; clear hK K; (try simp only [Act.put, List.setIfInBounds_toArray, List.set_cons_zero, List.set_cons_succ]))
            rotate_left
            · exact hS
            ((refine wpAnyE_take (v := undef) (i := 34) (oi := ?_) ?_ (by kernel_rfl) ?_ ?_ (by assumption) ?_; rotate_left; (focus ((simp only [List.getElem?_toArray, List.getElem?_cons_succ, List.getElem?_cons_zero]; exact rfl))); (focus (exact fun _ _ _ h => h)); (focus (exact Or.inr ⟨by rfl, rfl⟩)); (try simp only [Act.put, List.setIfInBounds_toArray, List.set_cons_zero, List.set_cons_succ])); (refine wpAnyE_take (v := undef) (i := 35) (oi := ?_) ?_ (by kernel_rfl) ?_ ?_ (by assumption) ?_; rotate_left; (focus ((simp only [List.getElem?_toArray, List.getElem?_cons_succ, List.getElem?_cons_zero]; exact rfl))); (focus (exact fun _ _ _ h => h)); (focus (exact Or.inr ⟨by rfl, rfl⟩)); (try simp only [Act.put, List.setIfInBounds_toArray, List.set_cons_zero, List.set_cons_succ])))
            ((refine ePu 36 ?_); (refine ePu 37 ?_); (refine ePu 38 ?_))
            refine wpAnyE_done (by kernel_rfl) ?_ _
            go_wp2
            exact ⟨⟨j + 1, by omega, by go_num, by rw [HF.out], hx.trans ED⟩, by simp [intOf]; omega⟩
          by_cases hlk : j < k
          · have k3 : (j : Int) < (k : Int) := by omega
            have HF : Hid (foundT pks k (j + 1) = true) := by show _ = _; rw [HSC.out, HBJ.out]; simp [hlk]
            go_wp2_with fail
            refine wp_region_heldE 99 (fun w' => w'.cell? ⟨w.heap.size, 0, none⟩ = some (.slice (some ⟨b3, o3, none⟩) N pc) ∧ w'.cell? ⟨b3, o3 + j * 3, none⟩ = some (.slice ai K ci) ∧ w'.cell? ⟨b3, o3 + j * 3 + 1, none⟩ = some (.int .i64 y.price) ∧ w'.cell? ⟨b3, o3 + j * 3 + 2, none⟩ = some (.int .i64 y.most) ∧ w'.cell? ⟨b3, o3 + k * 3, none⟩ = some (.slice ak K ck) ∧ w'.cell? ⟨b3, o3 + k * 3 + 1, none⟩ = some (.int .i64 p.price) ∧ w'.cell? ⟨b3, o3 + k * 3 + 2, none⟩ = some (.int .i64 p.most)) (by kernel_rfl) ?_
            have ED : Ext wr wr.drew := (Ext.refl _).drew
            have hS := show _ ∧ _ ∧ _ ∧ _ ∧ _ ∧ _ ∧ _ from ⟨ED.cell a1', ED.cell c1, ED.cell c2, ED.cell c3, ED.cell d1, ED.cell d2, ED.cell d3⟩
            clear a1' c1 c2 c3 d1 d2 d3
            generalize wr.drew = w2 at hS ED ⊢
            obtain ⟨s0, s1, s2, s3, s4, s5, s6⟩ := hS
            have z1 := cell_lt s0
            have z2 := cell_lt s1
            have z3 := cell_lt s4
            dsimp only at z1 z2 z3
            have hS := show _ ∧ _ ∧ _ ∧ _ ∧ _ ∧ _ ∧ _ from ⟨s0, s1, s2, s3, s4, s5, s6⟩
            ((refine ePu 0 ?_); (refine ePu 1 ?_); (refine ePu 2 ?_); (refine ePu 3 ?_))
            (refine wpAnyE_pure (v := .bool true) (i := 4) (oi := ?_) ?_ (by kernel_rfl) ?_ ?_ ?_ ?_; rotate_left; (focus ((simp only [List.getElem?_toArray, List.getElem?_cons_succ, List.getElem?_cons_zero]; exact rfl))); (focus (exact fun _ _ _ h => h)); (focus (refine Or.inl ⟨by rfl, ?_⟩; intro w hSw; clear hSw; go_simp)); (focus (first | exact (fun _ => by assumption) | (intro hlst; exact absurd hlst (by kernel_rfl)) | (intro hlst; cases hlst))); (try simp only [Act.put, List.setIfInBounds_toArray, List.set_cons_zero, List.set_cons_succ]))
            ((refine ePu 5 ?_))
            ((refine eTk 6 ?_); (refine eTk 7 ?_); (refine eTk 8 ?_); (refine eTk 9 ?_); (refine eTk 10 ?_); (refine eTk 11 ?_); (refine eTk 12 ?_); (refine eTk 13 ?_); (refine eTk 14 ?_); (refine eTk 15 ?_))
            (refine wpAnyE_one (i := 16) (o := ?_) ?_ (by kernel_rfl) (fun K hK => ?_); rotate_left; (focus ((simp only [List.getElem?_toArray, List.getElem?_cons_succ, List.getElem?_cons_zero]; exact rfl))); go_simp; go_at_call 70; refine (HB1.out _ ED).mono ?_; rintro e w3 ⟨rfl, hE⟩; go_wp2_with fail; refine hK.out _ _ ?_ (fun hHeld => ?_); rotate_left; clear hK K; (try simp only [Act.put, List.setIfInBounds_toArray, List.set_cons_zero, List.set_cons_succ]))
            rotate_left
            · exact ⟨hE.cell s0, hE.cell s1, hE.cell s2, hE.cell s3, hE.cell s4, hE.cell s5, hE.cell s6⟩
            replace hS := hHeld
            replace ED := ED.trans hE
            clear hE s0 s1 s2 s3 s4 s5 s6 hHeld
            obtain ⟨s0, s1, s2, s3, s4, s5, s6⟩ := hS
            have z1 := cell_lt s0
            have z2 := cell_lt s1
            have z3 := cell_lt s4
            dsimp only at z1 z2 z3
            have hS := show _ ∧ _ ∧ _ ∧ _ ∧ _ ∧ _ ∧ _ from ⟨s0, s1, s2, s3, s4, s5, s6⟩
            ((refine ePu 17 ?_); (refine ePu 18 ?_); (refine ePu 19 ?_); (refine ePu 20 ?_); (refine ePu 21 ?_); (refine ePu 22 ?_))
            ((refine wpAnyE_take (v := undef) (i := 23) (oi := ?_) ?_ (by kernel_rfl) ?_ ?_ (by assumption) ?_; rotate_left; (focus ((simp only [List.getElem?_toArray, List.getElem?_cons_succ, List.getElem?_cons_zero]; exact rfl))); (focus (exact fun _ _ _ h => h)); (focus (exact Or.inr ⟨by rfl, rfl⟩)); (try simp only [Act.put, List.setIfInBounds_toArray, List.set_cons_zero, List.set_cons_succ])); (refine wpAnyE_take (v := undef) (i := 24) (oi := ?_) ?_ (by kernel_rfl) ?_ ?_ (by assumption) ?_; rotate_left; (focus ((simp only [List.getElem?_toArray, List.getElem?_cons_succ, List.getElem?_cons_zero]; exact rfl))); (focus (exact fun _ _ _ h => h)); (focus (exact Or.inr ⟨by rfl, rfl⟩)); (try simp only [Act.put, List.setIfInBounds_toArray, List.set_cons_zero, List.set_cons_succ])); (refine wpAnyE_take (v := undef) (i := 25) (oi := ?_) ?_ (by kernel_rfl) ?_ ?_ (by assumption) ?_; rotate_left; (focus ((simp only [List.getElem?_toArray, List.getElem?_cons_succ, List.getElem?_cons_zero]; exact rfl))); (focus (exact fun _ _ _ h => h)); (focus (exact Or.inr ⟨by rfl, rfl⟩)); (try simp only [Act.put, List.setIfInBounds_toArray, List.set_cons_zero, List.set_cons_succ])); (refine wpAnyE_take (v := undef) (i := 26) (oi := ?_) ?_ (by kernel_rfl) ?_ ?_ (by assumption) ?_; rotate_left; (focus ((simp only [List.getElem?_toArray, List.getElem?_cons_succ, List.getElem?_cons_zero]; exact rfl))); (focus (exact fun _ _ _ h => h)); (focus (exact Or.inr ⟨by rfl, rfl⟩)); (try simp only [Act.put, List.setIfInBounds_toArray, List.set_cons_zero, List.set_cons_succ])); (refine wpAnyE_take (v := undef) (i := 27) (oi := ?_) ?_ (by kernel_rfl) ?_ ?_ (by assumption) ?_; rotate_left; (focus ((simp only [List.getElem?_toArray, List.getElem?_cons_succ, List.getElem?_cons_zero]; exact rfl))); (focus (exact fun _ _ _ h => h)); (focus (exact Or.inr ⟨by rfl, rfl⟩)); (try simp only [Act.put, List.setIfInBounds_toArray, List.set_cons_zero, List.set_cons_succ])); (refine wpAnyE_take (v := undef) (i := 28) (oi := ?_) ?_ (by kernel_rfl) ?_ ?_ (by assumption) ?_; rotate_left; (focus ((simp only [List.getElem?_toArray, List.getElem?_cons_succ, List.getElem?_cons_zero]; exact rfl))); (focus (exact fun _ _ _ h => h)); (focus (exact Or.inr ⟨by rfl, rfl⟩)); (try simp only [Act.put, List.setIfInBounds_toArray, List.set_cons_zero, List.set_cons_succ])); (refine wpAnyE_take (v := undef) (i := 29) (oi := ?_) ?_ (by kernel_rfl) ?_ ?_ (by assumption) ?_; rotate_left; (focus ((simp only [List.getElem?_toArray, List.getElem?_cons_succ, List.getElem?_cons_zero]; exact rfl))); (focus (exact fun _ _ _ h => h)); (focus (exact Or.inr ⟨by rfl, rfl⟩)); (try simp only [Act.put, List.setIfInBounds_toArray, List.set_cons_zero, List.set_cons_succ])); (refine wpAnyE_take (v := undef) (i := 30) (oi := ?_) ?_ (by kernel_rfl) ?_ ?_ (by assumption) ?_; rotate_left; (focus ((simp only [List.getElem?_toArray, List.getElem?_cons_succ, List.getElem?_cons_zero]; exact rfl))); (focus (exact fun _ _ _ h => h)); (focus (exact Or.inr ⟨by rfl, rfl⟩)); (try simp only [Act.put, List.setIfInBounds_toArray, List.set_cons_zero, List.set_cons_succ])); (refine wpAnyE_take (v := undef) (i := 31) (oi := ?_) ?_ (by kernel_rfl) ?_ ?_ (by assumption) ?_; rotate_left; (focus ((simp only [List.getElem?_toArray, List.getElem?_cons_succ, List.getElem?_cons_zero]; exact rfl))); (focus (exact fun _ _ _ h => h)); (focus (exact Or.inr ⟨by rfl, rfl⟩)); (try simp only [Act.put, List.setIfInBounds_toArray, List.set_cons_zero, List.set_cons_succ])); (refine wpAnyE_take (v := undef) (i := 32) (oi := ?_) ?_ (by kernel_rfl) ?_ ?_ (by assumption) ?_; rotate_left; (focus ((simp only [List.getElem?_toArray, List.getElem?_cons_succ, List.getElem?_cons_zero]; exact rfl))); (focus (exact fun _ _ _ h => h)); (focus (exact Or.inr ⟨by rfl, rfl⟩)); (try simp only [Act.put, List.setIfInBounds_toArray, List.set_cons_zero, List.set_cons_succ])))
            (refine wpAnyE_one (i := 33) (o := ?_) ?_ (by kernel_rfl) (fun K hK => ?_); rotate_left; (focus ((simp only [List.getElem?_toArray, List.getElem?_cons_succ, List.getElem?_cons_zero]; exact rfl))); go_simp; refine hK.out _ _ ?_ (fun hHeld => ?_); rotate_left; clear hK K; (try simp only [Act.put, List.setIfInBounds_toArray, List.set_cons_zero, List.set_cons_succ]))
            rotate_left
            · exact hS
            ((refine wpAnyE_take (v := undef) (i := 34) (oi := ?_) ?_ (by kernel_rfl) ?_ ?_ (by assumption) ?_; rotate_left; (focus ((simp only [List.getElem?_toArray, List.getElem?_cons_succ, List.getElem?_cons_zero]; exact rfl))); (focus (exact fun _ _ _ h => h)); (focus (exact Or.inr ⟨by rfl, rfl⟩)); (try simp only [Act.put, List.setIfInBounds_toArray, List.set_cons_zero, List.set_cons_succ])))
            ((refine ePu 35 ?_); (refine ePu 36 ?_); (refine ePu 37 ?_); (refine ePu 38 ?_))
            refine wpAnyE_done (by kernel_rfl) ?_ _
            go_wp2
            exact ⟨⟨j + 1, by omega, by go_num, by rw [HF.out], hx.trans ED⟩, by simp [intOf]; omega⟩
          have k3 : ¬ (j : Int) < (k : Int) := by omega
          have HF : Hid (foundT pks k (j + 1) = !v2) := by show _ = _; rw [HSC.out, HBJ.out]; simp [hlk]
          go_wp2_with fail
          refine wp_region_heldE 99 (fun w' => w'.cell? ⟨w.heap.size, 0, none⟩ = some (.slice (some ⟨b3, o3, none⟩) N pc) ∧ w'.cell? ⟨b3, o3 + j * 3, none⟩ = some (.slice ai K ci) ∧ w'.cell? ⟨b3, o3 + j * 3 + 1, none⟩ = some (.int .i64 y.price) ∧ w'.cell? ⟨b3, o3 + j * 3 + 2, none⟩ = some (.int .i64 y.most) ∧ w'.cell? ⟨b3, o3 + k * 3, none⟩ = some (.slice ak K ck) ∧ w'.cell? ⟨b3, o3 + k * 3 + 1, none⟩ = some (.int .i64 p.price) ∧ w'.cell? ⟨b3, o3 + k * 3 + 2, none⟩ = some (.int .i64 p.most)) (by kernel_rfl) ?_
          have ED : Ext wr wr.drew := (Ext.refl _).drew
          have hS := show _ ∧ _ ∧ _ ∧ _ ∧ _ ∧ _ ∧ _ from ⟨ED.cell a1', ED.cell c1, ED.cell c2, ED.cell c3, ED.cell d1, ED.cell d2, ED.cell d3⟩
          clear a1' c1 c2 c3 d1 d2 d3
          generalize wr.drew = w2 at hS ED ⊢
          obtain ⟨s0, s1, s2, s3, s4, s5, s6⟩ := hS
          have z1 := cell_lt s0
          have z2 := cell_lt s1
          have z3 := cell_lt s4
          dsimp only at z1 z2 z3
          have hS := show _ ∧ _ ∧ _ ∧ _ ∧ _ ∧ _ ∧ _ from ⟨s0, s1, s2, s3, s4, s5, s6⟩
          ((refine ePu 0 ?_); (refine ePu 1 ?_); (refine ePu 2 ?_); (refine ePu 3 ?_))
          (refine wpAnyE_pure (v := .bool true) (i := 4) (oi := ?_) ?_ (by kernel_rfl) ?_ ?_ ?_ ?_; rotate_left; (focus ((simp only [List.getElem?_toArray, List.getElem?_cons_succ, List.getElem?_cons_zero]; exact rfl))); (focus (exact fun _ _ _ h => h)); (focus (refine Or.inl ⟨by rfl, ?_⟩; intro w hSw; clear hSw; go_simp)); (focus (first | exact (fun _ => by assumption) | (intro hlst; exact absurd hlst (by kernel_rfl)) | (intro hlst; cases hlst))); (try simp only [Act.put, List.setIfInBounds_toArray, List.set_cons_zero, List.set_cons_succ]))
          ((refine ePu 5 ?_))
          ((refine eTk 6 ?_); (refine eTk 7 ?_); (refine eTk 8 ?_); (refine eTk 9 ?_); (refine eTk 10 ?_); (refine eTk 11 ?_); (refine eTk 12 ?_); (refine eTk 13 ?_); (refine eTk 14 ?_); (refine eTk 15 ?_))
          (refine wpAnyE_one (i := 16) (o := ?_) ?_ (by kernel_rfl) (fun K hK => ?_); rotate_left; (focus ((simp only [List.getElem?_toArray, List.getElem?_cons_succ, List.getElem?_cons_zero]; exact rfl))); go_simp; go_at_call 70; refine (HB1.out _ ED).mono ?_; rintro e w3 ⟨rfl, hE⟩; go_wp2_with fail; refine hK.out _ _ ?_ (fun hHeld => ?_); rotate_left; clear hK K; (try simp only [Act.put, List.setIfInBounds_toArray, List.set_cons_zero, List.set_cons_succ]))
          rotate_left
          · exact ⟨hE.cell s0, hE.cell s1, hE.cell s2, hE.cell s3, hE.cell s4, hE.cell s5, hE.cell s6⟩
          replace hS := hHeld
          replace ED := ED.trans hE
          clear hE s0 s1 s2 s3 s4 s5 s6 hHeld
          obtain ⟨s0, s1, s2, s3, s4, s5, s6⟩ := hS
          have z1 := cell_lt s0
          have z2 := cell_lt s1
          have z3 := cell_lt s4
          dsimp only at z1 z2 z3
          have hS := show _ ∧ _ ∧ _ ∧ _ ∧ _ ∧ _ ∧ _ from ⟨s0, s1, s2, s3, s4, s5, s6⟩
          ((refine ePu 17 ?_); (refine ePu 18 ?_); (refine ePu 19 ?_); (refine ePu 20 ?_); (refine ePu 21 ?_); (refine ePu 22 ?_))
          ((refine eTk 23 ?_); (refine eTk 24 ?_); (refine eTk 25 ?_); (refine eTk 26 ?_); (refine eTk 27 ?_); (refine eTk 28 ?_); (refine eTk 29 ?_); (refine eTk 30 ?_); (refine eTk 31 ?_); (refine eTk 32 ?_))
          (refine wpAnyE_one (i := 33) (o := ?_) ?_ (by kernel_rfl) (fun K hK => ?_); rotate_left; (focus ((simp only [List.getElem?_toArray, List.getElem?_cons_succ, List.getElem?_cons_zero]; exact rfl))); go_simp; go_at_call 70; refine (HB2.out _ ED).mono ?_; rintro e w4 ⟨rfl, hE⟩; go_wp2_with fail; refine hK.out _ _ ?_ (fun hHeld => ?_); rotate_left; clear hK K; (try simp only [Act.put, List.setIfInBounds_toArray, List.set_cons_zero, List.set_cons_succ]))
          rotate_left
          · exact ⟨hE.cell s0, hE.cell s1, hE.cell s2, hE.cell s3, hE.cell s4, hE.cell s5, hE.cell s6⟩
          replace ED := ED.trans hE
          ((refine ePu 34 ?_); (refine ePu 35 ?_); (refine ePu 36 ?_); (refine ePu 37 ?_); (refine ePu 38 ?_))
          refine wpAnyE_done (by kernel_rfl) ?_ _
          go_wp2
          exact ⟨⟨j + 1, by omega, by go_num, by rw [HF.out], hx.trans ED⟩, by simp [intOf]; omega⟩
        · skip
          have hje : j = N := by omega
          subst hje
          have hjl' : ¬ (j : Int) < (j : Int) := by omega
          have HFF := Lib.hid (found_full pks k HN.out)
          have HO2 := Lib.hid (HO.out.ext hx)
          have EW5 := he.trans hx
          cases hd : dearS pks k
          · have HD := Lib.hid hd
            rw [HFF.out, hd]
            clear hd
            go_wp2
            refine ⟨⟨k + 1, by omega, by go_num, ?_, HV.out, EW5⟩, by simp [intOf]; omega⟩
            show OwnsI _ _ _
            rw [dearT_no HD.out]
            exact HO2.out
          · have HD := Lib.hid hd
            rw [HFF.out, hd]
            clear hd
            obtain ⟨i0, hi, hi0, hi1, hi2⟩ := info_parts infoInt
            go_wp2_with (at_builtin; refine wpList_append1 _ rfl _ _ 23 rfl 3 i0 (.int .i64 0) 1 8 Tryz.underlying23 hi hi0 hi1 hi2 rfl (by decide) vv (dearT pks k).length (vals (dearT pks k)) rfl (HO2.out.ext ((Ext.refl _).alloc _)) ⟨wr.heap.size, 0, none⟩ 1 1 (by decide) [.int .i64 (k : Int)] rfl rfl (cells_one _ _ _) (by intro u hu; simp at hu; subst hu; rfl) (by have := dearT_len pks k; unfold maxLen; omega) (by have := dearT_len pks k; omega) ?_)
            intro v' w9 hown9 hend9
            have O9 : Hid (OwnsI w9 v' (dearT pks (k + 1))) := by
              show OwnsI _ _ _
              rw [dearT_yes HD.out]
              exact ownsI_succ hown9
            have OB9 : Hid (∀ b, v'.ownBlock = some b → w1.heap.size ≤ b) := hend9.ge (n := w1.heap.size) (by have := EW5.size; simp; omega) HV.out
            have B9 : Ext w1 w9 := (EW5.trans ((Ext.refl _).alloc _)).trans' (hend9.below (n := w1.heap.size) (by have := EW5.size; simp; omega) HV.out) (Nat.le_refl _)
            clear hown9 hend9 hi hi0 hi1 hi2 i0
            go_wp2
            exact ⟨⟨k + 1, by omega, by go_num, O9.out, OB9.out, B9⟩, by simp [intOf]; omega⟩
    · have hke : k = N := by omega
      subst hke
      have hlt' : ¬ (k : Int) < (k : Int) := by omega
      obtain ⟨a, cp, hv, g1, g2, g3⟩ := HO.out.full
      rw [← HQ.out] at hv g1 g2
      subst hv
      have HG := Lib.hid (show _ ∧ _ ∧ _ from ⟨g1, g2, g3⟩)
      clear g1 g2 g3 HO HV
      go_wp2
      go_ret2
      exact ⟨a, cp, rfl, HG.out.1, HG.out.2.1, HG.out.2.2, E1.trans he⟩
end Go.Proofs.YtmndcdjcodfchaaGreatDoor
