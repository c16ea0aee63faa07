/- Steps of the proof: Base, Zero, Spec, Ord, Grid, Bin, Chk, ChkR, Cells, Given, Range, Around, Own, WaveS, Kept, Round, WaveR. No conditions. -/
import Derived.Test.YtechakkdcllgoaaRows
import Derived.WalkKit
import Derived.WalkLawsBesides
import Derived.WalkSpells
import Derived.BigQuiet
import Derived.Deep.QuietTactic
import Derived.StillTailTactics
import Derived.Deep.RegionHeld3
import Derived.Deep.LoopGhost
import Derived.Deep.DeepCutAuto
import Derived.Deep.DeepFit
import Derived.Lib.Hide
import Derived.RowKit3
import Derived.RangeFuncNested
import Derived.RangeFuncBound
import Derived.RangeFuncCalls
import Derived.RangeFuncLeaves
import Derived.Shelf.Abstract
import Derived.OwnWalkIn
import Derived.TacticsInMore
import Derived.LoopNIn
import Derived.LoopIn
import Derived.Deep.AppendSrc
/- The vocabulary of the walks: a world that keeps all cells of another one. -/
namespace Go.Proofs.Ytechakkdcllgoaa
open Go.RowKit

/-- every cell of w is the same in w' -/
def Ext (w w' : World) : Prop := Below w.heap.size w w'
theorem Ext.refl (w : World) : Ext w w := Below.refl _ _
theorem Ext.trans {a b c : World} (h : Ext a b) (k : Ext b c) : Ext a c := Below.trans h (Below.mono k h.size)
theorem cell_lt {w : World} {p : Addr} {v : Value} (h : w.cell? p = some v) : p.block < w.heap.size := by
  by_cases hp : p.block < w.heap.size
  · exact hp
  · exfalso
    have : w.heap[p.block]? = none := by simp; omega
    simp [World.cell?, this] at h
theorem Ext.cell {w w' : World} (h : Ext w w') {p : Addr} {v : Value} (hc : w.cell? p = some v) : w'.cell? p = some v := (Below.cell h (cell_lt hc)).trans hc
theorem Ext.alloc {a w : World} (h : Ext a w) (o : Obj) : Ext a (w.alloc o) := Below.alloc h h.size o
theorem Ext.drew {a w : World} (h : Ext a w) : Ext a w.drew := Below.drew h
theorem Ext.size_lt {w w' : World} (h : Ext w w') {n : Nat} (hn : n < w.heap.size) : n < w'.heap.size := Nat.lt_of_lt_of_le hn h.size

/-- the same, in the form that the walk takes for rules -/
abbrev Sees (W w' : World) : Prop := (∀ b o, b < W.heap.size → w'.cell? ⟨b, o, none⟩ = W.cell? ⟨b, o, none⟩) ∧ (∀ b o, b < W.heap.size → w'.frozen? ⟨b, o, none⟩ = W.frozen? ⟨b, o, none⟩) ∧ Ext W w'
theorem sees {W w' : World} (h : Ext W w') : Sees W w' := ⟨fun b o hb => Below.cell (p := ⟨b, o, none⟩) h hb, fun b o hb => Below.frozen (p := ⟨b, o, none⟩) h hb, h⟩
theorem Sees.refl (w : World) : Sees w w := sees (Ext.refl w)
theorem Sees.alloc {a w : World} (h : Sees a w) (o : Obj) : Sees a (w.alloc o) := sees (h.2.2.alloc o)
theorem Sees.drew {a w : World} (h : Sees a w) : Sees a w.drew := sees h.2.2.drew
theorem Sees.ext {a b c : World} (h : Sees a b) (k : Ext b c) : Sees a c := sees (h.2.2.trans k)
theorem Ext.drewN {a w : World} (h : Ext a w) (n : Nat) : Ext a (w.drewN n) := ⟨h.os, h.tape, h.output, h.size, h.block⟩
theorem ret_bool {a b : Bool} (h : a = b) : Ending.returned (.bool a) = .returned (.bool b) := by rw [h]
theorem ret_int {k : IntKind} {a b : Int} (h : a = b) : Ending.returned (.int k a) = .returned (.int k b) := by rw [h]
end Go.Proofs.Ytechakkdcllgoaa
/- Great zero values, whose cells are told by a constant of their own. -/
namespace Go.Proofs.Ytechakkdcllgoaa
def Try.zeroCells83 : Array Value := Array.replicate 4096 (.bool false)
def Try.zeroCells60 : Array Value := Array.replicate 4096 (.int .i64 0)
@[simp] theorem zeroBools (w : World) : (zeroValue 83).run Try.prog w = .ok (.agg Try.zeroCells83) w := by kernel_rfl
@[simp] theorem zeroBools_size : Try.zeroCells83.size = 4096 := Array.size_replicate
@[simp] theorem zeroBools_ne : Try.zeroCells83 ≠ #[] := fun h => by have := zeroBools_size; rw [h] at this; simp at this
@[simp] theorem zeroTab (w : World) : (zeroValue 60).run Try.prog w = .ok (.agg Try.zeroCells60) w := by kernel_rfl
@[simp] theorem zeroTab_size : Try.zeroCells60.size = 4096 := Array.size_replicate
@[simp] theorem zeroTab_ne : Try.zeroCells60 ≠ #[] := fun h => by have := zeroTab_size; rw [h] at this; simp at this
end Go.Proofs.Ytechakkdcllgoaa
/- What the grid functions compute, in plain Lean. -/
namespace Go.Proofs.Ytechakkdcllgoaa

abbrev Pt := Int × Int
structure Gr where
  rows : Int
  cols : Int
  bl : List Pt

def cmpI (a b : Int) : Int := if a < b then -1 else if b < a then 1 else 0
def or2 (a b : Int) : Int := if a = 0 then b else a
def ordP (a b : Pt) : Int := or2 (cmpI a.1 b.1) (cmpI a.2 b.2)
/-- a comes before b -/
def bef (a b : Pt) : Bool := decide (a.1 < b.1) || (decide (a.1 = b.1) && decide (a.2 < b.2))
def pt (l : List Pt) (i : Nat) : Pt := l.getD i (0, 0)

theorem ordP_lt (a b : Pt) : ordP a b < 0 ↔ bef a b = true := by
  unfold ordP or2 cmpI bef
  simp only [Bool.or_eq_true, Bool.and_eq_true, decide_eq_true_eq]
  repeat' split <;> first | omega | (simp; omega)
theorem ordP_eq (a b : Pt) : ordP a b = 0 ↔ a = b := by
  unfold ordP or2 cmpI
  rw [Prod.ext_iff]
  repeat' split <;> first | omega | (simp; omega)
theorem ordP_bd (a b : Pt) : -1 ≤ ordP a b ∧ ordP a b ≤ 1 := by
  unfold ordP or2 cmpI
  repeat' split <;> first | omega | (simp; omega)
theorem bef_trans {a b c : Pt} (h : bef a b = true) (k : bef b c = true) : bef a c = true := by
  unfold bef at *
  simp only [Bool.or_eq_true, Bool.and_eq_true, decide_eq_true_eq] at *
  omega
theorem bef_irrefl (a : Pt) : bef a a = false := by unfold bef; simp

def inside (g : Gr) (p : Pt) : Bool := decide (0 ≤ p.1) && decide (p.1 < g.rows) && decide (0 ≤ p.2) && decide (p.2 < g.cols)
def blk (g : Gr) (p : Pt) : Bool := decide (p ∈ g.bl)
def opn (g : Gr) (p : Pt) : Bool := inside g p && !blk g p

/-- strictly ascending -/
def Asc (l : List Pt) : Prop := ∀ i, i + 1 < l.length → bef (pt l i) (pt l (i + 1)) = true
theorem Asc.lt {l : List Pt} (h : Asc l) : ∀ {i j : Nat}, i < j → j < l.length → bef (pt l i) (pt l j) = true := by
  intro i j hij hj
  induction j with
  | zero => omega
  | succ j ih =>
    by_cases e : i = j
    · subst e; exact h _ hj
    · exact bef_trans (ih (by omega) (by omega)) (h _ hj)

/-- the error of the blocked cells from the k-th on -/
def chkFrom (g : Gr) : Nat → Nat → Int
  | 0, _ => 0
  | n + 1, k => if inside g (pt g.bl k) = false then 2 else if k ≠ 0 ∧ bef (pt g.bl (k - 1)) (pt g.bl k) = false then 9 else chkFrom g n (k + 1)
def chk (g : Gr) : Int :=
  if g.rows < 1 ∨ 64 < g.rows then 2 else if g.cols < 1 ∨ 64 < g.cols then 2 else if 256 < g.bl.length then 5 else chkFrom g g.bl.length 0

theorem chkFrom_zero (g : Gr) : ∀ (n k : Nat), chkFrom g n k = 0 → ∀ i, k ≤ i → i < k + n → inside g (pt g.bl i) = true ∧ (i ≠ 0 → bef (pt g.bl (i - 1)) (pt g.bl i) = true) := by
  intro n
  induction n with
  | zero => intro k _ i h1 h2; omega
  | succ n ih =>
    intro k h i h1 h2
    unfold chkFrom at h
    split at h
    · omega
    · rename_i hin
      split at h
      · omega
      · rename_i hb
        by_cases e : i = k
        · subst e
          refine ⟨by simpa using hin, fun h0 => ?_⟩
          cases hc : bef (pt g.bl (i - 1)) (pt g.bl i)
          · exact absurd ⟨h0, hc⟩ hb
          · rfl
        · exact ih _ h i (by omega) (by omega)

structure Right (g : Gr) : Prop where
  r1 : 1 ≤ g.rows
  r2 : g.rows ≤ 64
  c1 : 1 ≤ g.cols
  c2 : g.cols ≤ 64
  few : g.bl.length ≤ 256
  ins : ∀ i, i < g.bl.length → inside g (pt g.bl i) = true
  asc : Asc g.bl
theorem right_of_chk {g : Gr} (h : chk g = 0) : Right g := by
  unfold chk at h
  split at h
  · omega
  · split at h
    · omega
    · split at h
      · omega
      · have hz := chkFrom_zero g _ _ h
        refine ⟨by omega, by omega, by omega, by omega, by omega, fun i hi => (hz i (by omega) (by omega)).1, fun i hi => ?_⟩
        have := (hz (i + 1) (by omega) (by omega)).2 (by omega)
        simpa using this

def cellsErr (g : Gr) : List Pt → Int
  | [] => 0
  | p :: l => if inside g p = false then 2 else if blk g p = true then 14 else cellsErr g l
def givenErr (g : Gr) (l : List Pt) : Int := if chk g ≠ 0 then chk g else cellsErr g l
def listedErr (g : Gr) (l : List Pt) : Int := if chk g ≠ 0 then chk g else if l = [] then 13 else if 4096 < l.length then 5 else cellsErr g l

def nbs (p : Pt) : List Pt := [(p.1 - 1, p.2), (p.1, p.2 - 1), (p.1, p.2 + 1), (p.1 + 1, p.2)]
def near (g : Gr) (p : Pt) : List Pt := (nbs p).filter (opn g)

/-! ### Waves -/
def addN (seen next : List Pt) : List Pt → List Pt × List Pt
  | [] => (seen, next)
  | q :: qs => if q ∈ seen then addN seen next qs else addN (q :: seen) (next ++ [q]) qs
def expand (g : Gr) (seen next : List Pt) : List Pt → List Pt × List Pt
  | [] => (seen, next)
  | p :: ps => expand g (addN seen next (near g p)).1 (addN seen next (near g p)).2 ps
def waves (g : Gr) : Nat → List Pt → List Pt → Nat → List (Pt × Nat)
  | 0, _, _, _ => []
  | f + 1, seen, now, far => if now = [] then [] else now.map (fun p => (p, far)) ++ waves g f (expand g seen [] now).1 (expand g seen [] now).2 (far + 1)
def wave (g : Gr) (p : Pt) : List (Pt × Nat) := waves g 4097 [p] [p] 0
/-- the distance from a cell, -1 where there is no route -/
def dist (g : Gr) (p q : Pt) : Int := match (wave g p).find? (fun x => x.1 == q) with
  | some x => x.2
  | none => -1
end Go.Proofs.Ytechakkdcllgoaa
/- cmp.Compare, cmp.Or and order: what they return. -/
namespace Go.Proofs.Ytechakkdcllgoaa
open Go.RowKit

set_option maxHeartbeats 400000 in
theorem isNaN_any (a : Int) (w : World) :
    Calls Try.prog 33 #[.int .i64 a] w fun e w' => e = .returned (.bool false) ∧ w = w' := by
  go_enter Try.func33, Try.ntmps33
  go_wp2
  all_goals go_ret
  all_goals simp

set_option maxHeartbeats 400000 in
theorem Compare_any (a b : Int) (w : World) :
    Calls Try.prog 22 #[.int .i64 a, .int .i64 b] w fun e w' => e = .returned (.int .i64 (cmpI a b)) ∧ w = w' := by
  unfold cmpI
  by_cases h1 : a < b
  · rw [if_pos h1]
    go_enter Try.func22, Try.ntmps22
    go_wp2_with (go_at_call 33; refine (isNaN_any _ _).mono ?_; rintro e w' ⟨rfl, rfl⟩)
    all_goals go_ret
    all_goals exact ⟨rfl, rfl⟩
  · rw [if_neg h1]
    by_cases h2 : b < a
    · rw [if_pos h2]
      go_enter Try.func22, Try.ntmps22
      go_wp2_with (go_at_call 33; refine (isNaN_any _ _).mono ?_; rintro e w' ⟨rfl, rfl⟩)
      all_goals go_ret
      all_goals exact ⟨rfl, rfl⟩
    · rw [if_neg h2]
      go_enter Try.func22, Try.ntmps22
      go_wp2_with (go_at_call 33; refine (isNaN_any _ _).mono ?_; rintro e w' ⟨rfl, rfl⟩)
      all_goals go_ret
      all_goals exact ⟨rfl, rfl⟩

set_option maxHeartbeats 800000 in
theorem Or2_any (a b : Int) (bk off cap : Nat) (w : World) (h0 : w.cell? ⟨bk, off, none⟩ = some (.int .i64 a)) (h1 : w.cell? ⟨bk, off+1, none⟩ = some (.int .i64 b)) :
    Calls Try.prog 21 #[.slice (some ⟨bk, off, none⟩) 2 cap] w fun e w' => e = .returned (.int .i64 (or2 a b)) ∧ w = w' := by
  unfold or2
  by_cases ha : a = 0
  · subst ha
    rw [if_pos rfl]
    by_cases hb : b = 0
    · subst hb
      go_enter Try.func21, Try.ntmps21
      go_wp2
      refine wp_loop_rounds 3 ?_
      repeat any_goals (rw [rounds_succ]; go_wp2)
      all_goals go_ret
      all_goals exact ⟨rfl, rfl⟩
    · go_enter Try.func21, Try.ntmps21
      go_wp2
      refine wp_loop_rounds 2 ?_
      repeat any_goals (rw [rounds_succ]; go_wp2)
      all_goals go_ret
      all_goals exact ⟨rfl, rfl⟩
  · rw [if_neg ha]
    go_enter Try.func21, Try.ntmps21
    go_wp2
    refine wp_loop_rounds 1 ?_
    repeat any_goals (rw [rounds_succ]; go_wp2)
    all_goals go_ret
    all_goals exact ⟨rfl, rfl⟩

set_option maxHeartbeats 800000 in
theorem order_any (a b : Pt) (w : World) :
    Calls Try.prog 14 #[.agg #[.int .i64 a.1, .int .i64 a.2], .agg #[.int .i64 b.1, .int .i64 b.2]] w fun e w' => e = .returned (.int .i64 (ordP a b)) ∧ Ext w w' := by
  go_enter Try.func14, Try.ntmps14
  go_wp2
  have H : Ext w ((w.alloc (.cells #[.int .i64 a.1, .int .i64 a.2] 27)).alloc (.cells #[.int .i64 b.1, .int .i64 b.2] 27)) := ((Ext.refl _).alloc _).alloc _
  go_region_held3 (fun w' => Sees ((w.alloc (.cells #[.int .i64 a.1, .int .i64 a.2] 27)).alloc (.cells #[.int .i64 b.1, .int .i64 b.2] 27)) w') ((repeat (first | exact Sees.refl _ | assumption | apply Sees.drew | apply Sees.alloc | (refine Sees.ext ?_ (by assumption))))) (first | (go_at_call 22; refine (Compare_any _ _ _).mono ?_; rintro e w' ⟨rfl, rfl⟩) | (go_at_call 21; refine (Or2_any (cmpI a.1 b.1) (cmpI a.2 b.2) _ _ _ _ (by go_simp) (by go_simp)).mono ?_; rintro e w' ⟨rfl, rfl⟩))
  all_goals go_wp2
  all_goals go_ret
  exact ⟨rfl, H.trans ((Ext.refl _).alloc _).drew⟩
end Go.Proofs.Ytechakkdcllgoaa
/- Cells of grids: inside, blocked, Check and the errors of cells. -/
namespace Go.Proofs.Ytechakkdcllgoaa
open Go.RowKit

/-- a list of places in memory: from cell 'off' of block b on -/
def Cells2 (w : World) (a : Option Addr) (l : List Pt) : Prop :=
  ∀ i, i < l.length → ∃ b off, a = some ⟨b, off, none⟩ ∧ w.cell? ⟨b, off + i * 2, none⟩ = some (.int .i64 (pt l i).1) ∧ w.cell? ⟨b, off + i * 2 + 1, none⟩ = some (.int .i64 (pt l i).2)
theorem Cells2.ext {w w' : World} {a : Option Addr} {l : List Pt} (h : Cells2 w a l) (he : Ext w w') : Cells2 w' a l := fun i hi => by
  obtain ⟨b, off, h1, h2, h3⟩ := h i hi
  exact ⟨b, off, h1, he.cell h2, he.cell h3⟩

theorem inside_any (g : Gr) (p : Pt) (s : Value) (w : World) :
    Calls Try.prog 18 #[.agg #[.int .i64 g.rows, .int .i64 g.cols, s], .agg #[.int .i64 p.1, .int .i64 p.2]] w fun e w' => e = .returned (.bool (inside g p)) ∧ Ext w w' := by
  unfold inside
  go_enter Try.func18, Try.ntmps18
  go_wp2
  all_goals go_ret
  all_goals exact ⟨by first | rfl | (simp [*]; done) | (simp [*]; omega), ((Ext.refl _).alloc _).alloc _⟩
end Go.Proofs.Ytechakkdcllgoaa
/- The binary search among the blocked cells. -/
namespace Go.Proofs.Ytechakkdcllgoaa
open Go.RowKit

def BsPost (b : Bool) (w : World) (e : Ending) (w' : World) : Prop := ∃ n : Int, e = .returned (.tuple #[.int .i64 n, .bool b]) ∧ Ext w w'

theorem bs_mem (l : List Pt) (p : Pt) (m : Nat) (ha : Asc l) (hlo : ∀ k, k < m → ordP (pt l k) p < 0) (hhi : ∀ k, m ≤ k → k < l.length → 0 ≤ ordP (pt l k) p) :
    decide (p ∈ l) = (decide (m < l.length) && decide (ordP (pt l m) p = 0)) := by
  rw [Bool.eq_iff_iff]
  simp only [Bool.and_eq_true, decide_eq_true_eq]
  constructor
  · intro hm
    obtain ⟨j, hj, ej⟩ := List.getElem_of_mem hm
    have hpj : pt l j = p := by unfold pt; rw [List.getD_eq_getElem?_getD, List.getElem?_eq_getElem hj]; simpa using ej
    have h1 : ¬ j < m := fun hjm => by
      have h := hlo j hjm
      rw [hpj] at h
      have := (ordP_eq p p).2 rfl
      omega
    have h2 : ¬ m < j := fun hmj => by
      have h3 := hhi m (Nat.le_refl _) (by omega)
      have h4 : bef (pt l m) (pt l j) = true := ha.lt hmj hj
      rw [hpj] at h4
      have := (ordP_lt _ _).2 h4
      omega
    have h3 : j = m := by omega
    subst h3
    exact ⟨hj, (ordP_eq _ _).2 hpj⟩
  · rintro ⟨h1, h2⟩
    rw [← (ordP_eq _ _).1 h2]
    unfold pt
    rw [List.getD_eq_getElem?_getD, List.getElem?_eq_getElem h1]
    simp

set_option maxHeartbeats 1000000 in
theorem bsearch_any (l : List Pt) (p : Pt) (a : Option Addr) (cap : Nat) (w : World) (hl : l.length ≤ 256) (hasc : Asc l) (hc : Cells2 w a l) :
    Calls Try.prog 31 #[.slice a l.length cap, .agg #[.int .i64 p.1, .int .i64 p.2], .func (.func 14) #[] #[]] w (BsPost (decide (p ∈ l)) w) := by
  have HA := Lib.hid hasc
  clear hasc
  go_enter Try.func31, Try.ntmps31
  go_wp2
  have H : Ext w (w.alloc (.cells #[.int .i64 p.1, .int .i64 p.2] 27)) := (Ext.refl _).alloc _
  have c1 : (w.alloc (.cells #[.int .i64 p.1, .int .i64 p.2] 27)).cell? ⟨w.heap.size, 0, none⟩ = some (.int .i64 p.1) := by go_simp
  have c2 : (w.alloc (.cells #[.int .i64 p.1, .int .i64 p.2] 27)).cell? ⟨w.heap.size, 1, none⟩ = some (.int .i64 p.2) := by go_simp
  generalize w.alloc (.cells #[.int .i64 p.1, .int .i64 p.2] 27) = W at H c1 c2 ⊢
  have hc := hc.ext H
  go_loopw [9, 10] (fun i j wr => ∃ m n : Nat, m ≤ n ∧ n ≤ l.length ∧ i = .int .i64 m ∧ j = .int .i64 n ∧ Hid (∀ k, k < m → ordP (pt l k) p < 0) ∧ Hid (∀ k, n ≤ k → k < l.length → 0 ≤ ordP (pt l k) p) ∧ Ext W wr) (fun i j _ => (intOf j).toNat - (intOf i).toNat)
  case atStart => exact ⟨0, l.length, Nat.zero_le _, Nat.le_refl _, rfl, rfl, fun k hk => by omega, fun k h1 h2 => by omega, Ext.refl _⟩
  case round =>
    obtain ⟨m, n, hmn, hn, rfl, rfl, hlo, hhi, he⟩ := hrel
    by_cases hlt : m < n
    · obtain ⟨h, hm1, hm2, e0⟩ : ∃ h : Nat, m ≤ h ∧ h < n ∧ ((m : Int) + (n : Int)) / 2 = (h : Int) := ⟨(m + n) / 2, by omega, by omega, by omega⟩
      have d1 := he.cell c1
      have d2 := he.cell c2
      have d3 := cell_lt d1
      obtain ⟨b, off, ha, e1, e2⟩ := hc.ext he h (by omega)
      have e3 := cell_lt e1
      subst ha
      clear hc c1 c2
      dsimp only at d3 e3
      have i0 : (0 : Int) ≤ (h : Int) := Int.natCast_nonneg h
      have i1 : (h : Int) < (l.length : Int) := by omega
      by_cases hb : ordP (pt l h) p < 0
      · go_wp2
        clear e0
        go_region_held3 (fun w' => Sees wr w') ((repeat (first | exact Sees.refl _ | assumption | apply Sees.drew | apply Sees.alloc | (refine Sees.ext ?_ (by assumption))))) (first | (go_at_call 14; refine (order_any (pt l h) p _).mono ?_; rintro e w' ⟨rfl, hE⟩))
        go_wp2
        refine ⟨⟨h + 1, n, by omega, hn, by go_num, rfl, ?_, hhi, he.trans (show Sees wr _ by assumption).2.2⟩, by simp [intOf]; omega⟩
        intro k hk
        by_cases e : k = h
        · subst e; exact hb
        · have hkl : bef (pt l k) (pt l h) = true := HA.out.lt (by omega) (by omega)
          exact (ordP_lt _ _).2 (bef_trans hkl ((ordP_lt _ _).1 hb))
      · go_wp2
        clear e0
        go_region_held3 (fun w' => Sees wr w') ((repeat (first | exact Sees.refl _ | assumption | apply Sees.drew | apply Sees.alloc | (refine Sees.ext ?_ (by assumption))))) (first | (go_at_call 14; refine (order_any (pt l h) p _).mono ?_; rintro e w' ⟨rfl, hE⟩))
        go_wp2
        refine ⟨⟨m, h, by omega, by omega, rfl, rfl, hlo, ?_, he.trans (show Sees wr _ by assumption).2.2⟩, by simp [intOf]; omega⟩
        intro k hk1 hk2
        refine Int.not_lt.1 (fun hk3 => ?_)
        by_cases e : k = h
        · subst e; omega
        · have hkl : bef (pt l h) (pt l k) = true := HA.out.lt (by omega) hk2
          have := (ordP_lt _ _).2 (bef_trans hkl ((ordP_lt _ _).1 hk3))
          omega
    · have hmn' : m = n := by omega
      subst hmn'
      have hmem : Hid (decide (p ∈ l) = (decide (m < l.length) && decide (ordP (pt l m) p = 0))) := bs_mem l p m HA.out hlo.out hhi.out
      have d1 := he.cell c1
      have d2 := he.cell c2
      have d3 := cell_lt d1
      dsimp only at d3
      clear c1 c2
      by_cases hlt2 : m < l.length
      · obtain ⟨b, off, ha, e1, e2⟩ := hc.ext he m hlt2
        have e3 := cell_lt e1
        subst ha
        clear hc
        dsimp only at e3
        by_cases hz : ordP (pt l m) p = 0
        · have hfin : Hid (decide (p ∈ l) = true) := by show _ = _; rw [hmem.out]; simp [hz, hlt2]
          have hzz : (ordP (pt l m) p == 0) = true := by simp [hz]
          clear hz
          go_wp2
          go_region_held3 (fun w' => Sees wr w') ((repeat (first | exact Sees.refl _ | assumption | apply Sees.drew | apply Sees.alloc | (refine Sees.ext ?_ (by assumption))))) (first | (go_at_call 14; refine (order_any (pt l m) p _).mono ?_; rintro e w' ⟨rfl, hE⟩))
          go_wp2
          go_ret2
          exact ⟨m, by rw [hfin.out]; rfl, (H.trans he).trans (show Sees wr _ by assumption).2.2⟩
        · have hfin : Hid (decide (p ∈ l) = false) := by show _ = _; rw [hmem.out]; simp [hz]
          have hzz : (ordP (pt l m) p == 0) = false := by simp [hz]
          clear hz
          go_wp2
          go_region_held3 (fun w' => Sees wr w') ((repeat (first | exact Sees.refl _ | assumption | apply Sees.drew | apply Sees.alloc | (refine Sees.ext ?_ (by assumption))))) (first | (go_at_call 14; refine (order_any (pt l m) p _).mono ?_; rintro e w' ⟨rfl, hE⟩))
          go_wp2
          go_ret2
          exact ⟨m, by rw [hfin.out]; rfl, (H.trans he).trans (show Sees wr _ by assumption).2.2⟩
      · have hfin : Hid (decide (p ∈ l) = false) := by show _ = _; rw [hmem.out]; simp [hlt2]
        have hd : decide ((m : Int) < (l.length : Int)) = false := by simp; omega
        clear hc
        go_wp2
        go_quiet (fail)
        go_wp2
        go_ret2
        exact ⟨m, by rw [hfin.out]; rfl, (H.trans he).drewN _⟩
end Go.Proofs.Ytechakkdcllgoaa
/- Check of grids. -/
namespace Go.Proofs.Ytechakkdcllgoaa
open Go.RowKit

theorem blocked_any (g : Gr) (p : Pt) (ga : Option Addr) (gc : Nat) (w : World) (hr : Right g) (hc : Cells2 w ga g.bl) :
    Calls Try.prog 19 #[.agg #[.int .i64 g.rows, .int .i64 g.cols, .slice ga g.bl.length gc], .agg #[.int .i64 p.1, .int .i64 p.2]] w fun e w' => e = .returned (.bool (blk g p)) ∧ Ext w w' := by
  have HR := Lib.hid hr
  clear hr
  go_enter Try.func19, Try.ntmps19
  go_wp2_with fail
  have H : Ext w ((w.alloc (.cells #[.int .i64 g.rows, .int .i64 g.cols, .slice ga g.bl.length gc] 25)).alloc (.cells #[.int .i64 p.1, .int .i64 p.2] 27)) := ((Ext.refl _).alloc _).alloc _
  refine (bsearch_any g.bl p ga gc _ HR.out.few HR.out.asc (hc.ext H)).mono ?_
  rintro e w1 ⟨n, rfl, hE⟩
  go_wp2
  go_ret
  exact ⟨rfl, H.trans hE⟩

set_option maxHeartbeats 2000000 in
theorem Check_any (g : Gr) (ga : Option Addr) (gc : Nat) (w : World) (hl : g.bl.length ≤ maxLen) (hc : Cells2 w ga g.bl) :
    Calls Try.prog 11 #[.agg #[.int .i64 g.rows, .int .i64 g.cols, .slice ga g.bl.length gc]] w fun e w' => e = .returned (.int .i64 (chk g)) ∧ Ext w w' := by
  unfold maxLen at hl
  have H : Ext w ((w.alloc (.cells #[.int .i64 g.rows, .int .i64 g.cols, .slice ga g.bl.length gc] 25)).alloc (.cells #[.int .i64 g.rows, .int .i64 g.cols] 3)) := ((Ext.refl _).alloc _).alloc _
  have HC : Hid (Cells2 w ga g.bl) := hc
  clear hc
  by_cases h1 : g.rows < 1
  · have hz : Hid (chk g = 2) := by show _ = _; unfold chk; rw [if_pos (Or.inl h1)]
    go_enter Try.func11, Try.ntmps11
    go_wp2
    refine wp_loop_rounds 1 ?_
    repeat any_goals (rw [rounds_succ]; go_wp2)
    all_goals go_ret
    all_goals exact ⟨ret_int hz.out.symm, H⟩
  · by_cases h2 : 64 < g.rows
    · have hz : Hid (chk g = 2) := by show _ = _; unfold chk; rw [if_pos (Or.inr h2)]
      go_enter Try.func11, Try.ntmps11
      go_wp2
      refine wp_loop_rounds 1 ?_
      repeat any_goals (rw [rounds_succ]; go_wp2)
      all_goals go_ret
      all_goals exact ⟨ret_int hz.out.symm, H⟩
    · by_cases h3 : g.cols < 1
      · have hz : Hid (chk g = 2) := by show _ = _; unfold chk; rw [if_neg (by omega), if_pos (Or.inl h3)]
        go_enter Try.func11, Try.ntmps11
        go_wp2
        refine wp_loop_rounds 2 ?_
        repeat any_goals (rw [rounds_succ]; go_wp2)
        all_goals go_ret
        all_goals exact ⟨ret_int hz.out.symm, H⟩
      · by_cases h4 : 64 < g.cols
        · have hz : Hid (chk g = 2) := by show _ = _; unfold chk; rw [if_neg (by omega), if_pos (Or.inr h4)]
          go_enter Try.func11, Try.ntmps11
          go_wp2
          refine wp_loop_rounds 2 ?_
          repeat any_goals (rw [rounds_succ]; go_wp2)
          all_goals go_ret
          all_goals exact ⟨ret_int hz.out.symm, H⟩
        · by_cases h5 : 256 < g.bl.length
          · have hz : Hid (chk g = 5) := by show _ = _; unfold chk; rw [if_neg (by omega), if_neg (by omega), if_pos h5]
            go_enter Try.func11, Try.ntmps11
            go_wp2
            refine wp_loop_rounds 3 ?_
            repeat any_goals (rw [rounds_succ]; go_wp2)
            all_goals go_ret
            all_goals exact ⟨ret_int hz.out.symm, H⟩
          · have hz : Hid (chk g = chkFrom g g.bl.length 0) := by show _ = _; unfold chk; rw [if_neg (by omega), if_neg (by omega), if_neg h5]
            go_enter Try.func11, Try.ntmps11
            go_wp2
            refine wp_loop_rounds 3 ?_
            repeat any_goals (rw [rounds_succ]; go_wp2)
            have d1 : ((w.alloc (.cells #[.int .i64 g.rows, .int .i64 g.cols, .slice ga g.bl.length gc] 25)).alloc (.cells #[.int .i64 g.rows, .int .i64 g.cols] 3)).cell? ⟨w.heap.size, 0, none⟩ = some (.int .i64 g.rows) := by go_simp
            have d2 : ((w.alloc (.cells #[.int .i64 g.rows, .int .i64 g.cols, .slice ga g.bl.length gc] 25)).alloc (.cells #[.int .i64 g.rows, .int .i64 g.cols] 3)).cell? ⟨w.heap.size, 1, none⟩ = some (.int .i64 g.cols) := by go_simp
            have d3 : ((w.alloc (.cells #[.int .i64 g.rows, .int .i64 g.cols, .slice ga g.bl.length gc] 25)).alloc (.cells #[.int .i64 g.rows, .int .i64 g.cols] 3)).cell? ⟨w.heap.size, 2, none⟩ = some (.slice ga g.bl.length gc) := by go_simp
            generalize (w.alloc (.cells #[.int .i64 g.rows, .int .i64 g.cols, .slice ga g.bl.length gc] 25)).alloc (.cells #[.int .i64 g.rows, .int .i64 g.cols] 3) = W at H d1 d2 d3 ⊢
            clear h1 h2 h3 h4
            go_loopw [31] (fun i wr => ∃ k : Nat, k ≤ g.bl.length ∧ i = .int .i64 k ∧ Hid (chkFrom g g.bl.length 0 = chkFrom g (g.bl.length - k) k) ∧ Ext W wr) (fun i _ => g.bl.length - (intOf i).toNat)
            case atStart => exact ⟨0, Nat.zero_le _, rfl, by show _ = _; rw [Nat.sub_zero], Ext.refl _⟩
            case round =>
              obtain ⟨k, hk, rfl, hn, he⟩ := hrel
              by_cases hlt : k < g.bl.length
              · have hst : Hid (chkFrom g (g.bl.length - k) k = if inside g (pt g.bl k) = false then 2 else if k ≠ 0 ∧ bef (pt g.bl (k - 1)) (pt g.bl k) = false then 9 else chkFrom g (g.bl.length - (k + 1)) (k + 1)) := by
                  show _ = _
                  rw [show g.bl.length - k = (g.bl.length - (k + 1)) + 1 from by omega]
                  rfl
                obtain ⟨b, off, ha, e1, e2⟩ := HC.out.ext (H.trans he) k hlt
                have b1 := he.cell d1
                have b2 := he.cell d2
                have b3 := he.cell d3
                have b4 := cell_lt b1
                dsimp only at b4
                have e3 := cell_lt e1
                dsimp only at e3
                by_cases hin : inside g (pt g.bl k) = false
                · clear HC
                  subst ha
                  clear d1 d2 d3
                  go_wp2_with (go_at_call 18; refine (inside_any g (pt g.bl k) _ _).mono ?_; rintro e w1 ⟨rfl, hE⟩)
                  go_ret
                  exact ⟨ret_int (by rw [hz.out, hn.out, hst.out, if_pos hin]), (H.trans he).trans (((Ext.refl _).alloc _).trans (by assumption))⟩
                · have hin' : inside g (pt g.bl k) = true := by simpa using hin
                  clear hin
                  by_cases hk0 : k = 0
                  · have hd : decide (0 < k) = false := by simp; omega
                    have hst2 : Hid (chkFrom g (g.bl.length - k) k = chkFrom g (g.bl.length - (k + 1)) (k + 1)) := by
                      show _ = _
                      rw [hst.out, if_neg (by simp [hin']), if_neg (by omega)]
                    clear HC hk0
                    subst ha
                    clear d1 d2 d3
                    go_wp2_with (go_at_call 18; refine (inside_any g (pt g.bl k) _ _).mono ?_; rintro e w1 ⟨rfl, hE⟩)
                    go_quiet (fail)
                    go_wp2
                    refine ⟨⟨k + 1, by omega, by go_num, by show _ = _; rw [hn.out, hst2.out], he.trans (((Ext.refl _).alloc _).trans (Ext.drewN (by assumption) _))⟩, by simp [intOf]; omega⟩
                  · obtain ⟨b', off', ha', e1', e2'⟩ := HC.out.ext (H.trans he) (k - 1) (by omega)
                    subst ha
                    cases ha'
                    have hk1 : 0 < k := by omega
                    have q1 : ((k : Int) - 1).toNat = k - 1 := by omega
                    have q2 : (1 : Int) ≤ (k : Int) := by omega
                    have q3 : 1 ≤ k := by omega
                    have q4 : (k : Int) - 1 < (g.bl.length : Int) := by omega
                    have q5 : 0 ≤ (k : Int) - 1 := by omega
                    have q6 : IntKind.i64.wrap ((k : Int) - 1) = (k : Int) - 1 := IntWalk.i64_in _ (by omega)
                    clear d1 d2 d3 HC
                    by_cases hb : ordP (pt g.bl (k - 1)) (pt g.bl k) < 0
                    · have hst2 : Hid (chkFrom g (g.bl.length - k) k = chkFrom g (g.bl.length - (k + 1)) (k + 1)) := by
                        show _ = _
                        rw [hst.out, if_neg (by simp [hin']), if_neg (by rw [(ordP_lt _ _).1 hb]; simp)]
                      clear hk0
                      go_wp2_with (go_at_call 18; refine (inside_any g (pt g.bl k) _ _).mono ?_; rintro e w1 ⟨rfl, hE⟩; have hS := sees hE; have z1 : w.heap.size < w1.heap.size := hE.size_lt (by simp; omega); have z2 : wr.heap.size < w1.heap.size := hE.size_lt (by simp); have z3 : b < w1.heap.size := hE.size_lt (by simp; omega))
                      go_region_held3 (fun w' => Sees w1 w') ((repeat (first | exact Sees.refl _ | assumption | apply Sees.drew | apply Sees.alloc | (refine Sees.ext ?_ (by assumption))))) (first | (go_at_call 14; refine (order_any (pt g.bl (k - 1)) (pt g.bl k) _).mono ?_; rintro e w' ⟨rfl, hE2⟩))
                      go_wp2
                      refine ⟨⟨k + 1, by omega, by go_num, by show _ = _; rw [hn.out, hst2.out], he.trans ((((Ext.refl _).alloc _).trans (by assumption : Ext _ w1)).trans (show Sees w1 _ by assumption).2.2)⟩, by simp [intOf]; omega⟩
                    · have hst2 : Hid (chkFrom g (g.bl.length - k) k = 9) := by
                        show _ = _
                        rw [hst.out, if_neg (by simp [hin'])]
                        refine if_pos ⟨hk0, ?_⟩
                        cases hbb : bef (pt g.bl (k - 1)) (pt g.bl k)
                        · rfl
                        · exact absurd ((ordP_lt _ _).2 hbb) hb
                      clear hk0
                      go_wp2_with (go_at_call 18; refine (inside_any g (pt g.bl k) _ _).mono ?_; rintro e w1 ⟨rfl, hE⟩; have hS := sees hE; have z1 : w.heap.size < w1.heap.size := hE.size_lt (by simp; omega); have z2 : wr.heap.size < w1.heap.size := hE.size_lt (by simp); have z3 : b < w1.heap.size := hE.size_lt (by simp; omega))
                      go_region_held3 (fun w' => Sees w1 w') ((repeat (first | exact Sees.refl _ | assumption | apply Sees.drew | apply Sees.alloc | (refine Sees.ext ?_ (by assumption))))) (first | (go_at_call 14; refine (order_any (pt g.bl (k - 1)) (pt g.bl k) _).mono ?_; rintro e w' ⟨rfl, hE2⟩))
                      go_wp2
                      go_ret
                      exact ⟨ret_int (by rw [hz.out, hn.out, hst2.out]), (H.trans he).trans ((((Ext.refl _).alloc _).trans (by assumption : Ext _ w1)).trans (show Sees w1 _ by assumption).2.2)⟩
              · go_wp2
                go_ret
                exact ⟨ret_int (by rw [hz.out, hn.out, show g.bl.length - k = 0 from by omega]; rfl), H.trans he⟩
end Go.Proofs.Ytechakkdcllgoaa
/- The reference's Check. -/
namespace Go.Proofs.Ytechakkdcllgoaa
open Go.RowKit

end Go.Proofs.Ytechakkdcllgoaa
/- The errors of cells; given, listed. -/
namespace Go.Proofs.Ytechakkdcllgoaa
open Go.RowKit

theorem drop_pt (l : List Pt) (k : Nat) (h : k < l.length) : l.drop k = pt l k :: l.drop (k + 1) := by
  unfold pt
  rw [List.getD_eq_getElem?_getD, List.getElem?_eq_getElem h]
  exact List.drop_eq_getElem_cons h

set_option maxHeartbeats 2000000 in
theorem cells_any (g : Gr) (l : List Pt) (ga : Option Addr) (gc : Nat) (a : Option Addr) (cap : Nat) (w : World) (hr : Right g) (hc : Cells2 w ga g.bl) (hl : l.length ≤ maxLen) (hcl : Cells2 w a l) :
    Calls Try.prog 12 #[.agg #[.int .i64 g.rows, .int .i64 g.cols, .slice ga g.bl.length gc], .slice a l.length cap] w fun e w' => e = .returned (.int .i64 (cellsErr g l)) ∧ Ext w w' := by
  unfold maxLen at hl
  have HR := Lib.hid hr
  have HC : Hid (Cells2 w ga g.bl) := hc
  have HL : Hid (Cells2 w a l) := hcl
  clear hc hcl hr
  have H : Ext w (w.alloc (.cells #[.int .i64 g.rows, .int .i64 g.cols, .slice ga g.bl.length gc] 25)) := (Ext.refl _).alloc _
  go_enter Try.func12, Try.ntmps12
  go_wp2
  have d1 : (w.alloc (.cells #[.int .i64 g.rows, .int .i64 g.cols, .slice ga g.bl.length gc] 25)).cell? ⟨w.heap.size, 0, none⟩ = some (.int .i64 g.rows) := by go_simp
  have d2 : (w.alloc (.cells #[.int .i64 g.rows, .int .i64 g.cols, .slice ga g.bl.length gc] 25)).cell? ⟨w.heap.size, 1, none⟩ = some (.int .i64 g.cols) := by go_simp
  have d3 : (w.alloc (.cells #[.int .i64 g.rows, .int .i64 g.cols, .slice ga g.bl.length gc] 25)).cell? ⟨w.heap.size, 2, none⟩ = some (.slice ga g.bl.length gc) := by go_simp
  generalize w.alloc (.cells #[.int .i64 g.rows, .int .i64 g.cols, .slice ga g.bl.length gc] 25) = W at H d1 d2 d3 ⊢
  go_loopw [9] (fun i wr => ∃ k : Nat, k ≤ l.length ∧ i = .int .i64 k ∧ Hid (cellsErr g l = cellsErr g (l.drop k)) ∧ Ext W wr) (fun i _ => l.length - (intOf i).toNat)
  case atStart => exact ⟨0, Nat.zero_le _, rfl, by show _ = _; rw [List.drop_zero], Ext.refl _⟩
  case round =>
    obtain ⟨k, hk, rfl, hn, he⟩ := hrel
    have b1 := he.cell d1
    have b2 := he.cell d2
    have b3 := he.cell d3
    have b4 := cell_lt b1
    dsimp only at b4
    by_cases hlt : k < l.length
    · have hst : Hid (cellsErr g (l.drop k) = if inside g (pt l k) = false then 2 else if blk g (pt l k) = true then 14 else cellsErr g (l.drop (k + 1))) := by
        show _ = _
        rw [drop_pt l k hlt]
        rfl
      obtain ⟨b, off, ha, e1, e2⟩ := HL.out.ext (H.trans he) k hlt
      have e3 := cell_lt e1
      dsimp only at e3
      subst ha
      clear d1 d2 d3
      cases hin : inside g (pt l k)
      · go_wp2_with (go_at_call 18; refine (inside_any g (pt l k) _ _).mono ?_; rintro e w1 ⟨rfl, hE⟩)
        go_ret
        exact ⟨ret_int (by rw [hn.out, hst.out, if_pos hin]), (H.trans he).trans (((Ext.refl _).alloc _).trans (by assumption))⟩
      · cases hb : blk g (pt l k)
        · go_wp2_with (first | (go_at_call 18; refine (inside_any g (pt l k) _ _).mono ?_; rintro e w1 ⟨rfl, hE⟩; have hS := sees hE; have z1 : w.heap.size < w1.heap.size := hE.size_lt (by simp; omega); have z2 : wr.heap.size < w1.heap.size := hE.size_lt (by simp)) | (go_at_call 19; refine (blocked_any g (pt l k) ga gc _ HR.out (HC.out.ext ((H.trans he).trans (((Ext.refl _).alloc _).trans hE)))).mono ?_; rintro e w2 ⟨rfl, hE2⟩))
          refine ⟨⟨k + 1, by omega, by go_num, by show _ = _; rw [hn.out, hst.out, if_neg (by simp [hin]), if_neg (by simp [hb])], he.trans ((((Ext.refl _).alloc _).trans hE).trans hE2)⟩, by simp [intOf]; omega⟩
        · go_wp2_with (first | (go_at_call 18; refine (inside_any g (pt l k) _ _).mono ?_; rintro e w1 ⟨rfl, hE⟩; have hS := sees hE; have z1 : w.heap.size < w1.heap.size := hE.size_lt (by simp; omega); have z2 : wr.heap.size < w1.heap.size := hE.size_lt (by simp)) | (go_at_call 19; refine (blocked_any g (pt l k) ga gc _ HR.out (HC.out.ext ((H.trans he).trans (((Ext.refl _).alloc _).trans hE)))).mono ?_; rintro e w2 ⟨rfl, hE2⟩))
          go_ret
          exact ⟨ret_int (by rw [hn.out, hst.out, if_neg (by simp [hin]), if_pos hb]), (H.trans he).trans ((((Ext.refl _).alloc _).trans hE).trans hE2)⟩
    · go_wp2
      go_ret
      exact ⟨ret_int (by rw [hn.out, List.drop_eq_nil_of_le (by omega)]; rfl), H.trans he⟩

end Go.Proofs.Ytechakkdcllgoaa
/- given, listed, Open. -/
namespace Go.Proofs.Ytechakkdcllgoaa
open Go.RowKit

theorem cells2_one {w : World} {b : Nat} {p : Pt} (h1 : w.cell? ⟨b, 0, none⟩ = some (.int .i64 p.1)) (h2 : w.cell? ⟨b, 1, none⟩ = some (.int .i64 p.2)) : Cells2 w (some ⟨b, 0, none⟩) [p] := fun i hi => by
  obtain rfl : i = 0 := by simp at hi; omega
  exact ⟨b, 0, rfl, by simpa [pt] using h1, by simpa [pt] using h2⟩

theorem given_any (g : Gr) (l : List Pt) (ga : Option Addr) (gc : Nat) (a : Option Addr) (cap : Nat) (w : World) (hg : g.bl.length ≤ maxLen) (hc : Cells2 w ga g.bl) (hl : l.length ≤ maxLen) (hcl : Cells2 w a l) :
    Calls Try.prog 9 #[.agg #[.int .i64 g.rows, .int .i64 g.cols, .slice ga g.bl.length gc], .slice a l.length cap] w fun e w' => e = .returned (.int .i64 (givenErr g l)) ∧ Ext w w' := by
  have HC : Hid (Cells2 w ga g.bl) := hc
  have HL : Hid (Cells2 w a l) := hcl
  have HG := Lib.hid hg
  have HM := Lib.hid hl
  clear hc hcl hg hl
  have H : Ext w (w.alloc (.cells #[.int .i64 g.rows, .int .i64 g.cols, .slice ga g.bl.length gc] 25)) := (Ext.refl _).alloc _
  by_cases hz : chk g = 0
  · have hr := Lib.hid (right_of_chk hz)
    have hf : Hid (givenErr g l = cellsErr g l) := by show _ = _; unfold givenErr; rw [if_neg (by simp [hz])]
    go_enter Try.func9, Try.ntmps9
    go_wp2_with fail
    refine (Check_any g ga gc _ HG.out (HC.out.ext H)).mono ?_
    rintro e w1 ⟨rfl, hE⟩
    rw [hz]
    have hS := sees hE
    go_wp2_with fail
    refine (cells_any g l ga gc a cap _ hr.out (HC.out.ext (H.trans hE)) HM.out (HL.out.ext (H.trans hE))).mono ?_
    rintro e w2 ⟨rfl, hE2⟩
    go_wp2
    go_ret
    exact ⟨ret_int hf.out.symm, (H.trans hE).trans hE2⟩
  · have hf : Hid (givenErr g l = chk g) := by show _ = _; unfold givenErr; rw [if_pos hz]
    have hz1 : (chk g == 0) = false := by simp [hz]
    have hz2 : (chk g != 0) = true := by simp [hz]
    clear hz
    go_enter Try.func9, Try.ntmps9
    go_wp2_with fail
    refine (Check_any g ga gc _ HG.out (HC.out.ext H)).mono ?_
    rintro e w1 ⟨rfl, hE⟩
    go_wp2
    go_ret
    exact ⟨ret_int hf.out.symm, H.trans hE⟩

def openErr (g : Gr) (p : Pt) : Int := if chk g ≠ 0 then chk g else if inside g p = false then 2 else 0
def openB (g : Gr) (p : Pt) : Bool := decide (chk g = 0) && opn g p
theorem chkFrom_val (g : Gr) : ∀ n k, chkFrom g n k = 0 ∨ chkFrom g n k = 2 ∨ chkFrom g n k = 9 := by
  intro n
  induction n with
  | zero => intro k; left; rfl
  | succ n ih =>
    intro k
    unfold chkFrom
    split
    · right; left; rfl
    · split
      · right; right; rfl
      · exact ih _
theorem chk_val (g : Gr) : chk g = 0 ∨ chk g = 2 ∨ chk g = 5 ∨ chk g = 9 := by
  unfold chk
  repeat' split
  · simp
  · simp
  · simp
  · rcases chkFrom_val g g.bl.length 0 with h | h | h <;> simp [h]
theorem open_given (g : Gr) (p : Pt) : (givenErr g [p] = 14 ∧ openErr g p = 0 ∧ openB g p = false) ∨ (givenErr g [p] ≠ 14 ∧ openErr g p = givenErr g [p] ∧ openB g p = decide (givenErr g [p] = 0)) := by
  unfold givenErr openErr openB opn
  by_cases h : chk g = 0
  · simp only [h, ne_eq, not_true_eq_false, if_false, cellsErr]
    cases h1 : inside g p <;> cases h2 : blk g p <;> simp
  · simp only [ne_eq, h, not_false_eq_true, if_true]
    rcases chk_val g with h1 | h1 | h1 | h1 <;> simp [h1] at h ⊢

end Go.Proofs.Ytechakkdcllgoaa
/- A range over a function, where the iterator may keep state of its own in memory: the law for the caller, and what an iterator's contract says. -/
namespace Go.Proofs.Ytechakkdcllgoaa
open Go.RowKit

/-- the loops over functions in a code: their assign codes and bodies -/
def rngOf : Code → List (Code × Code)
  | .seq a b => rngOf a ++ rngOf b
  | .block _ c => rngOf c
  | .loop c => rngOf c
  | .cond _ a b => rngOf a ++ rngOf b
  | .rangeFunc _ _ a b => [(a, b)]
  | _ => []

/-- a loop's record or its list of deferred calls: the book-keeping of loops over functions -/
def isRec : Obj → Bool
  | .loop _ => true
  | .deferred _ => true
  | _ => false

/-- below n nothing turns; beyond, book-keeping of loops alone -/
def Keep (n : Nat) (A B : World) : Prop := Below n A B ∧ ∀ (k : Nat) (o : Obj), A.heap[k]? = some o → isRec o = false → B.heap[k]? = some o
theorem Keep.refl (n : Nat) (A : World) : Keep n A A := ⟨Below.refl _ _, fun _ _ h _ => h⟩
theorem Keep.trans {n : Nat} {A B C : World} (h : Keep n A B) (k : Keep n B C) : Keep n A C := ⟨h.1.trans k.1, fun i o hi ho => k.2 i o (h.2 i o hi ho) ho⟩
theorem Keep.alloc {n : Nat} {A : World} (hn : n ≤ A.heap.size) (o : Obj) : Keep n A (A.alloc o) :=
  ⟨(Below.refl _ _).alloc hn o, fun k o' h _ => by
    have hk : k < A.heap.size := (Array.getElem?_eq_some_iff.1 h).1
    rw [Below.heap_alloc _ _ _ hk]; exact h⟩
theorem Keep.turn {n l : Nat} {A : World} {o o' : Obj} (hn : n ≤ l) (h : A.heap[l]? = some o) (hr : isRec o = true) : Keep n A (A.putObj l o') :=
  ⟨(Below.refl _ _).grown (grownBy_putObj' A l o') (by have := (Array.getElem?_eq_some_iff.1 h).1; omega) (fun k e => by cases e; exact hn), fun k x hx hxr => by
    have : k ≠ l := fun e => by subst e; rw [h] at hx; cases hx; rw [hr] at hxr; cases hxr
    rw [World.putObj_heap_other this]; exact hx⟩
theorem Keep.ext {n : Nat} {A B : World} (h : Ext A B) (hn : n ≤ A.heap.size) : Keep n A B :=
  ⟨h.mono hn, fun k o hk _ => by
    have hk' : k < A.heap.size := (Array.getElem?_eq_some_iff.1 hk).1
    rw [Below.block h k hk']; exact hk⟩

/-- what an iterator is told that a round keeps: the blocks k with Kd k; below n not the book-keeping of loops -/
def Kept (Kd : Nat → Prop) (n : Nat) (A B : World) : Prop := A.heap.size ≤ B.heap.size ∧ ∀ (k : Nat) (o : Obj), Kd k → A.heap[k]? = some o → (isRec o = false ∨ n ≤ k) → B.heap[k]? = some o
theorem Kept.refl (Kd : Nat → Prop) (n : Nat) (A : World) : Kept Kd n A A := ⟨Nat.le_refl _, fun _ _ _ h _ => h⟩
theorem Kept.trans {Kd : Nat → Prop} {n : Nat} {A B C : World} (h : Kept Kd n A B) (k : Kept Kd n B C) : Kept Kd n A C := ⟨Nat.le_trans h.1 k.1, fun i o hd hi ho => k.2 i o hd (h.2 i o hd hi ho) ho⟩
theorem Kept.turn {Kd : Nat → Prop} {n l : Nat} {A : World} {o o' : Obj} (hn : l < n) (h : A.heap[l]? = some o) (hr : isRec o = true) : Kept Kd n A (A.putObj l o') :=
  ⟨(grownBy_putObj' A l o').size, fun k x _ hx hxr => by
    have : k ≠ l := fun e => by
      subst e; rw [h] at hx; cases hx
      rcases hxr with hxr | hxr
      · rw [hr] at hxr; cases hxr
      · omega
    rw [World.putObj_heap_other this]; exact hx⟩
theorem Kept.ext {A B : World} (h : Ext A B) (Kd : Nat → Prop) (n : Nat) : Kept Kd n A B :=
  ⟨h.size, fun k o _ hk _ => by rw [Below.block h k (Array.getElem?_eq_some_iff.1 hk).1]; exact hk⟩

/-- THE CONTRACT OF AN ITERATOR that yields xs in order. 'R n A B': how it turns the world (n: the heap's size when it is called); 'Kd n k': the blocks that it wants kept by a round; 'm': so many blocks it has made before its first round. -/
def Iter {α : Type} (P : Program) (g : Nat) (lb : Array Value) (encs : α → Array Value) (xs : List α) (R : Nat → World → World → Prop) (Kd : Nat → Nat → Prop) (m : Nat) (w : World) : Prop :=
  ∀ (l : Nat) (J Jx : List α → World → Prop) (W : World), Ext w W →
    (∀ pre A B, J pre A → R W.heap.size A B → J pre B) → (∀ pre A B, Jx pre A → R W.heap.size A B → Jx pre B) →
    (∀ pre x W1, pre ++ [x] <+: xs → W.heap.size + m ≤ W1.heap.size → J pre W1 → YieldAt Fence.wide 0 P l (encs x) W1 fun e W' =>
      (e = .returned (.bool true) ∧ J (pre ++ [x]) W' ∧ Kept (Kd W.heap.size) W.heap.size W1 W') ∨ (e = .returned (.bool false) ∧ Jx (pre ++ [x]) W' ∧ Kept (Kd W.heap.size) W.heap.size W1 W')) →
    J [] W →
    CallsIn Fence.wide 0 P g (#[.func (.yield l) #[] #[]] ++ lb) W fun e W' => (∃ v, e = .returned v) ∧ (J xs W' ∨ ∃ pre, pre <+: xs ∧ Jx pre W')

/-- how the body of a round may end -/
def roundQ {α : Type} (Kd : Nat → Prop) (n : Nat) (I : List α → World → Prop) (Ix : Code → List α → World → Prop) (xs : List α) (w0 W : World) : Exit → Act → World → Prop
  | .normal, _, W' => Kept Kd n W W' ∧ KeepsFrom w0.heap.size W W' ∧ I xs W'
  | .ret, _, W' => Kept Kd n W W' ∧ KeepsFrom w0.heap.size W W' ∧ Ix .ret xs W'
  | .exit id, _, W' => Kept Kd n W W' ∧ KeepsFrom w0.heap.size W W' ∧ Ix (.exit id) xs W'
  | .goto t, _, W' => Kept Kd n W W' ∧ KeepsFrom w0.heap.size W W' ∧ Ix (.goto t) xs W'
  | .panic _, _, _ => False
  | .outgrown, _, _ => False

/-- the law of the caller -/
theorem wp_range {α : Type} {P : Program} {n : Nat} {g : Operand} {ps : Array Tmp} {assign body : Code} {Q : Exit → Act → World → Prop} {a : Act} {w : World}
    {gf : Nat} {lb : Array Value} (hg : a.eval g = .func (.func gf) #[] lb) (eg : ∀ args w, (callFunc gf args).run P w = .ok (.enter gf args) w)
    {encs : α → Array Value} {xs : List α} {R : Nat → World → World → Prop} {Kd : Nat → Nat → Prop} {m : Nat} (hseq : Iter P gf lb encs xs R Kd m w)
    (hps : ∀ x, (encs x).size = ps.size)
    (hR : ∀ A B, R (w.heap.size + 2) A B → ∀ (k : Nat) (o : Obj), k < w.heap.size + 2 → A.heap[k]? = some o → B.heap[k]? = some o)
    (I : List α → World → Prop) (Ix : Code → List α → World → Prop)
    (hIR : ∀ pre A B, I pre A → R (w.heap.size + 2) A B → I pre B) (hIxR : ∀ c pre A B, Ix c pre A → R (w.heap.size + 2) A B → Ix c pre B)
    (hIK : ∀ pre A B, I pre A → Keep w.heap.size A B → I pre B) (hIxK : ∀ c pre A B, Ix c pre A → Keep w.heap.size A B → Ix c pre B)
    (h0 : I [] w) (Ax : α → Act → World → Prop) (hAxK : ∀ x a' A B, Ax x a' A → Keep w.heap.size A B → Ax x a' B)
    (hassign : ∀ (l : Nat) (pre : List α) (x : α) (W : World) (K : Act → World → Prop), w.heap.size + 2 + m ≤ W.heap.size → I pre W → (∀ a' W', Ext W W' → Ax x a' W' → K a' W') →
      assign.wpIn (Fence.wide.inRound l) 0 P (Exit.then K (fun _ _ _ => False)) { tmps := (ps.zip (encs x)).foldl (fun t (p, v) => t.setIfInBounds p v) a.tmps, defers := [] } W)
    (hbody : ∀ (l : Nat) (pre : List α) (x : α) (a' : Act) (W : World), pre ++ [x] <+: xs → w.heap.size + 2 + m ≤ W.heap.size → I pre W → Ax x a' W →
      body.wpIn (Fence.wide.inRound l) 0 P (roundQ (Kd (w.heap.size + 2)) (w.heap.size + 2) I Ix (pre ++ [x]) w W) a' W)
    (hIE : ∀ pre A B, I pre A → Ext A B → I pre B)
    (hdone : ∀ (D : Nat) (W : World), w.heap.size ≤ D → D < W.heap.size → I xs W → W.heap[D]? = some (.deferred (some [])) → Q .normal { a with defers := { target := .collected D, args := #[] } :: a.defers } W)
    (hstop : ∀ (D : Nat) (c : Code) (pre : List α) (W : World), w.heap.size ≤ D → D < W.heap.size → pre <+: xs → Ix c pre W → W.heap[D]? = some (.deferred (some [])) → c.wp P Q { a with defers := { target := .collected D, args := #[] } :: a.defers } W) :
    (Code.rangeFunc g ps assign body).wp P Q a w := by
  refine (wpIn_wide (n := n)).1 (wpIn_rangeFunc ?_)
  intro fn hfn
  obtain ⟨rec, hrec⟩ : ∃ rec : LoopState → Option Code → Loop, rec = fun st pe => { state := st, pending := pe, fn, tmps := a.tmps, params := ps, assign, body, defers := w.heap.size } := ⟨_, rfl⟩
  obtain ⟨W1, hW1⟩ : ∃ W1, (w.alloc (.deferred (some []))).alloc (.loop (rec .ready none)) = W1 := ⟨_, rfl⟩
  have hsz : W1.heap.size = w.heap.size + 2 := by rw [← hW1]; simp
  have hL1 : W1.heap[w.heap.size + 1]? = some (.loop (rec .ready none)) := by
    rw [← hW1]; have := World.alloc_heap_new (w.alloc (.deferred (some []))) (.loop (rec .ready none)); rwa [World.size_alloc] at this
  have hD1 : W1.heap[w.heap.size]? = some (.deferred (some [])) := by
    rw [← hW1]; exact (Below.heap_alloc _ _ _ (by simp)).trans (World.alloc_heap_new w _)
  have hE1 : Ext w W1 := by rw [← hW1]; exact ((Ext.refl w).alloc _).alloc _
  have hI1 : I [] W1 := hIE _ _ _ h0 hE1
  refine ⟨w.heap.size + 1, [{ target := .collected w.heap.size, args := #[] }], W1, { target := .fn (.func gf) lb, args := #[.func (.yield (w.heap.size + 1)) #[] #[]] }, W1, gf,
    #[.func (.yield (w.heap.size + 1)) #[] #[]] ++ lb, W1, ?_, ?_, fun _ _ => trivial, ?_, (fun h => by cases h), ?_⟩
  · rw [← hW1, hrec]; exact run_enterLoop_outer _ _ _ _ _
  · simp only [resolve, hg]
    simp [go_sem]
  · simp [invoke, go_sem, eg]
  have wide0 : ∀ {f : FuncId} {args : Array Value} {v : World} {T : Ending → World → Prop}, CallsIn Fence.wide 0 P f args v T → CallsIn Fence.wide (n - 1) P f args v T := fun h => callsIn_wide.2 (callsIn_wide.1 h)
  refine wide0 ?_
  have key := hseq (w.heap.size + 1)
    (fun pre W => I pre W ∧ W.heap[w.heap.size + 1]? = some (.loop (rec .ready none)) ∧ W.heap[w.heap.size]? = some (.deferred (some [])))
    (fun pre W => ∃ c, Ix c pre W ∧ W.heap[w.heap.size + 1]? = some (.loop (rec .done (some c))) ∧ W.heap[w.heap.size]? = some (.deferred (some [])))
    W1 hE1
  rw [hsz] at key
  have key2 := key
    (fun pre A B h hr => ⟨hIR _ _ _ h.1 hr, hR _ _ hr _ _ (by omega) h.2.1, hR _ _ hr _ _ (by omega) h.2.2⟩)
    (fun pre A B h hr => by
      obtain ⟨c, h1, h2, h3⟩ := h
      exact ⟨c, hIxR _ _ _ _ h1 hr, hR _ _ hr _ _ (by omega) h2, hR _ _ hr _ _ (by omega) h3⟩)
  clear key
  refine CallsIn.mono (key2 ?_ ⟨hI1, hL1, hD1⟩) ?_
  · -- one round
    rintro pre x W hpre hm ⟨hi, hl, hd⟩
    have hy := run_yield (P := P) (args := encs x) hl (by rw [hrec]; exact hps x)
    rw [hrec] at hy
    refine ⟨fn, _, assign, body, hy, roundIn_of_wpIn hfn (hassign _ pre x W _ hm hi ?_)⟩
    clear hy
    intro a' Wa hEa hAx
    have hla : Wa.heap[w.heap.size + 1]? = some (.loop (rec .ready none)) := (Below.block hEa _ (Array.getElem?_eq_some_iff.1 hl).1).trans hl
    have hda : Wa.heap[w.heap.size]? = some (.deferred (some [])) := (Below.block hEa _ (Array.getElem?_eq_some_iff.1 hd).1).trans hd
    have hia : I pre Wa := hIE _ _ _ hi hEa
    have hlt : w.heap.size + 1 < Wa.heap.size := (Array.getElem?_eq_some_iff.1 hla).1
    refine ⟨_, run_beginRound hla (by rw [hrec]), ?_⟩
    obtain ⟨W2, hW2⟩ : ∃ W2, Wa.putObj (w.heap.size + 1) (.loop { rec .ready none with state := .busy }) = W2 := ⟨_, rfl⟩
    have hT : Keep w.heap.size Wa W2 := by rw [← hW2]; exact Keep.turn (by omega) hla rfl
    have hl2 : W2.heap[w.heap.size + 1]? = some (.loop { rec .ready none with state := .busy }) := by rw [← hW2]; exact World.putObj_heap_same hlt
    have hd2 : W2.heap[w.heap.size]? = some (.deferred (some [])) := by rw [← hW2]; exact (World.putObj_heap_other (by omega)).trans hda
    rw [hW2]
    refine wpIn_mono (hbody _ pre x a' W2 hpre (Nat.le_trans hm (Nat.le_trans hEa.size hT.1.size)) (hIK _ _ _ hia hT) (hAxK _ _ _ _ hAx hT)) ?_
    have fin : ∀ (jump : Option Code) (W3 : World), KeepsFrom w.heap.size W2 W3 →
        ∃ W4, (Instr.endRound (w.heap.size + 1) jump).run P W3 = .ok (.bool jump.isNone) W4 ∧ Keep w.heap.size W3 W4 ∧ Kept (Kd (w.heap.size + 2)) (w.heap.size + 2) W3 W4 ∧
          W4.heap[w.heap.size + 1]? = some (.loop (rec (if jump.isNone then .ready else .done) jump)) ∧ W4.heap[w.heap.size]? = some (.deferred (some [])) := fun jump W3 hk3 => by
      have hl3 := hk3.same _ _ (by omega) hl2 rfl
      have hd3 := hk3.same _ _ (Nat.le_refl _) hd2 rfl
      have hr3 := run_endRound (P := P) jump hl3
      have hlt3 := (Array.getElem?_eq_some_iff.1 hl3).1
      rw [hrec] at hr3 ⊢
      exact ⟨_, hr3, Keep.turn (by omega) hl3 rfl, Kept.turn (by omega) hl3 rfl, World.putObj_heap_same hlt3, (World.putObj_heap_other (by omega)).trans hd3⟩
    rintro e a3 W3 hp
    have hW02 : Kept (Kd (w.heap.size + 2)) (w.heap.size + 2) W W2 := (Kept.ext hEa _ _).trans (by rw [← hW2]; exact Kept.turn (by omega) hla rfl)
    cases e with
    | normal =>
      obtain ⟨hkp, hk3, hi3⟩ := hp
      obtain ⟨W4, hr4, hT4, hK4, hl4, hd4⟩ := fin none W3 hk3
      exact ⟨_, _, hr4, .inl ⟨rfl, ⟨hIK _ _ _ hi3 hT4, hl4, hd4⟩, (hW02.trans hkp).trans hK4⟩⟩
    | ret =>
      obtain ⟨hkp, hk3, hi3⟩ := hp
      obtain ⟨W4, hr4, hT4, hK4, hl4, hd4⟩ := fin (some .ret) W3 hk3
      exact ⟨_, _, hr4, .inr ⟨rfl, ⟨_, hIxK _ _ _ _ hi3 hT4, hl4, hd4⟩, (hW02.trans hkp).trans hK4⟩⟩
    | exit id =>
      obtain ⟨hkp, hk3, hi3⟩ := hp
      obtain ⟨W4, hr4, hT4, hK4, hl4, hd4⟩ := fin (some (.exit id)) W3 hk3
      exact ⟨_, _, hr4, .inr ⟨rfl, ⟨_, hIxK _ _ _ _ hi3 hT4, hl4, hd4⟩, (hW02.trans hkp).trans hK4⟩⟩
    | goto t =>
      obtain ⟨hkp, hk3, hi3⟩ := hp
      obtain ⟨W4, hr4, hT4, hK4, hl4, hd4⟩ := fin (some (.goto t)) W3 hk3
      exact ⟨_, _, hr4, .inr ⟨rfl, ⟨_, hIxK _ _ _ _ hi3 hT4, hl4, hd4⟩, (hW02.trans hkp).trans hK4⟩⟩
    | panic ch => exact hp.elim
    | outgrown => exact hp.elim
  · -- behind the iterator
    rintro e W2 ⟨⟨v, rfl⟩, (⟨hi, hl, hd⟩ | ⟨pre, hpre, c, hi, hl, hd⟩)⟩
    · have hr := run_endLoop (P := P) hl (by rw [hrec]; simp)
      have hT : Keep w.heap.size W2 _ := Keep.turn (n := w.heap.size) (l := w.heap.size + 1) (A := W2) (o' := .loop { rec .ready none with state := .exhausted }) (by omega) hl rfl
      rw [hrec] at hr hT
      have hd' := (World.putObj_heap_other (w := W2) (r := w.heap.size + 1) (o := .loop { rec .ready none with state := .exhausted }) (k := w.heap.size) (by omega)).trans hd
      rw [hrec] at hd'
      exact ⟨none, _, hr, hdone _ _ (Nat.le_refl _) (Array.getElem?_eq_some_iff.1 hd').1 (hIK _ _ _ hi hT) hd'⟩
    · have hr := run_endLoop (P := P) hl (by rw [hrec]; simp)
      have hT : Keep w.heap.size W2 _ := Keep.turn (n := w.heap.size) (l := w.heap.size + 1) (A := W2) (o' := .loop { rec .done (some c) with state := .exhausted }) (by omega) hl rfl
      rw [hrec] at hr hT
      have hd' := (World.putObj_heap_other (w := W2) (r := w.heap.size + 1) (o := .loop { rec .done (some c) with state := .exhausted }) (k := w.heap.size) (by omega)).trans hd
      rw [hrec] at hd'
      exact ⟨some c, _, hr, wpIn_wide.2 (hstop _ c pre _ (Nat.le_refl _) (Array.getElem?_eq_some_iff.1 hd').1 hpre (hIxK _ _ _ _ hi hT) hd')⟩

/-- a mark of a loop over a function among the deferred calls -/
def mark (D : Nat) : Deferred := { target := .collected D, args := #[] }
/-- the marks ds lie untouched, from block n on -/
def Marks (n : Nat) (ds : List Deferred) (w : World) : Prop := ∃ Ds : List Nat, ds = Ds.map mark ∧ Ds.Nodup ∧ ∀ D ∈ Ds, n ≤ D ∧ w.heap[D]? = some (.deferred (some []))
theorem Marks.nil (n : Nat) (w : World) : Marks n [] w := ⟨[], rfl, List.nodup_nil, fun _ h => by cases h⟩
theorem Marks.kept {n : Nat} {ds : List Deferred} {A B : World} (h : Marks n ds A) (hk : ∀ D, n ≤ D → A.heap[D]? = some (.deferred (some [])) → B.heap[D]? = some (.deferred (some []))) : Marks n ds B := by
  obtain ⟨Ds, h1, h2, h3⟩ := h
  exact ⟨Ds, h1, h2, fun D hD => ⟨(h3 D hD).1, hk D (h3 D hD).1 (h3 D hD).2⟩⟩
theorem Marks.ext {n : Nat} {ds : List Deferred} {A B : World} (h : Marks n ds A) (he : Ext A B) : Marks n ds B :=
  h.kept fun D _ hD => by rw [Below.block he D (Array.getElem?_eq_some_iff.1 hD).1]; exact hD
theorem Marks.cons {n D : Nat} {ds : List Deferred} {A B : World} (h : Marks n ds A) (hA : A.heap.size ≤ D) (hn : n ≤ D) (hk : Marks n ds B) (hD : B.heap[D]? = some (.deferred (some []))) : Marks n (mark D :: ds) B := by
  obtain ⟨Ds, h1, h2, h3⟩ := h
  obtain ⟨Es, k1, k2, k3⟩ := hk
  refine ⟨D :: Ds, by rw [h1]; rfl, List.nodup_cons.2 ⟨fun hm => ?_, h2⟩, fun E hE => ?_⟩
  · have := (Array.getElem?_eq_some_iff.1 (h3 D hm).2).1
    omega
  · rcases List.mem_cons.1 hE with rfl | hE
    · exact ⟨hn, hD⟩
    · have hEs : Es = Ds := by
        have : Es.map mark = Ds.map mark := by rw [← k1, h1]
        exact List.map_inj_right (fun a b hab => by cases hab; rfl) |>.1 this
      exact k3 E (hEs ▸ hE)
/-- a frame with marks leaves -/
theorem leaves_marks {P : Program} {fn : Func} {tmps : Array Value} {R : Ending → World → Prop} {m n : Nat} {v : Value} (hv : ∀ w, (results fn tmps).run P w = .ok v w) :
    ∀ (ds : List Deferred) (w : World), Marks n ds w → (∀ w', Below n w w' → R (.returned v) w') → LeavesInM Fence.wide m P fn tmps R ds .returning w := by
  intro ds
  induction ds with
  | nil => intro w _ hR; exact ⟨v, hv w, hR w (Below.refl _ _)⟩
  | cons d ds ih =>
    intro w hm hR
    obtain ⟨Ds, h1, h2, h3⟩ := hm
    cases Ds with
    | nil => cases h1
    | cons D Ds =>
      simp only [List.map_cons, List.cons.injEq] at h1
      obtain ⟨rfl, rfl⟩ := h1
      have hD := h3 D (List.mem_cons_self ..)
      have hb : Below n w (w.putObj D (.deferred none)) := (Below.refl _ _).grown (grownBy_putObj' w D _) (by have := (Array.getElem?_eq_some_iff.1 hD.2).1; omega) (fun k e => by cases e; exact hD.1)
      refine ⟨(by simp), .inl ⟨D, _, rfl, run_takeDeferred hD.2, ih _ ⟨Ds, rfl, (List.nodup_cons.1 h2).2, fun E hE => ⟨(h3 E (List.mem_cons_of_mem _ hE)).1, ?_⟩⟩ (fun w' hw' => hR w' (hb.trans hw'))⟩⟩
      have hne : E ≠ D := fun e => (List.nodup_cons.1 h2).1 (e ▸ hE)
      rw [World.putObj_heap_other hne]
      exact (h3 E (List.mem_cons_of_mem _ hE)).2
end Go.Proofs.Ytechakkdcllgoaa
/- The iterator around a cell. -/
namespace Go.Proofs.Ytechakkdcllgoaa
open Go.RowKit
attribute [local go_sem] Oper.semAt_some

theorem Kept.cell {Kd : Nat → Prop} {n : Nat} {A B : World} (h : Kept Kd n A B) {p : Addr} {v : Value} (hk : Kd p.block) (hc : A.cell? p = some v) : B.cell? p = some v := by
  have hlt := cell_lt hc
  obtain ⟨o, ho⟩ : ∃ o, A.heap[p.block]? = some o := ⟨_, Array.getElem?_eq_getElem hlt⟩
  have hr : isRec o = false := by
    cases o <;> simp [World.cell?, ho] at hc <;> rfl
  exact (World.cell?_of_block (w := A) ((h.2 _ _ hk ho (.inl hr)).trans ho.symm)).trans hc
theorem Cells2.kept {Kd : Nat → Prop} {n : Nat} {A B : World} {a : Option Addr} {l : List Pt} (h : Kept Kd n A B) (hk : ∀ b off, a = some ⟨b, off, none⟩ → l ≠ [] → Kd b) (hc : Cells2 A a l) : Cells2 B a l := fun i hi => by
  obtain ⟨b, off, h1, h2, h3⟩ := hc i hi
  have hne : l ≠ [] := by intro e; simp [e] at hi
  exact ⟨b, off, h1, h.cell (hk b off h1 hne) h2, h.cell (hk b off h1 hne) h3⟩
theorem Cells2.lt {w : World} {a : Option Addr} {l : List Pt} (h : Cells2 w a l) (hne : l ≠ []) {b off : Nat} (ha : a = some ⟨b, off, none⟩) : b < w.heap.size := by
  obtain ⟨b', off', h1, h2, _⟩ := h 0 (List.length_pos_iff.2 hne)
  rw [ha] at h1
  cases h1
  exact cell_lt h2

def deltas : List Pt := [(-1, 0), (0, -1), (0, 1), (1, 0)]
theorem nbs_pt (p : Pt) (k : Nat) (h : k < 4) : (nbs p).take (k + 1) = (nbs p).take k ++ [(p.1 + (pt deltas k).1, p.2 + (pt deltas k).2)] := by
  have : k = 0 ∨ k = 1 ∨ k = 2 ∨ k = 3 := by omega
  rcases this with rfl | rfl | rfl | rfl <;> simp [nbs, deltas, pt] <;> omega
theorem deltas_bd (k : Nat) (h : k < 4) : -1 ≤ (pt deltas k).1 ∧ (pt deltas k).1 ≤ 1 ∧ -1 ≤ (pt deltas k).2 ∧ (pt deltas k).2 ≤ 1 := by
  have : k = 0 ∨ k = 1 ∨ k = 2 ∨ k = 3 := by omega
  rcases this with rfl | rfl | rfl | rfl <;> simp [deltas, pt]
theorem inside_bd {g : Gr} {p : Pt} (hr : Right g) (h : inside g p = true) : 0 ≤ p.1 ∧ p.1 < 64 ∧ 0 ≤ p.2 ∧ p.2 < 64 := by
  unfold inside at h
  simp only [Bool.and_eq_true, decide_eq_true_eq] at h
  have := hr.r2; have := hr.c2
  omega

theorem around_any (g : Gr) (p : Pt) (s : Value) (w : World) :
    Calls Try.prog 20 #[.agg #[.int .i64 g.rows, .int .i64 g.cols, s], .agg #[.int .i64 p.1, .int .i64 p.2]] w fun e w' => e = .returned (.func (.func 32) #[] #[.pointer (some ⟨w.heap.size + 1, 0, none⟩), .pointer (some ⟨w.heap.size, 0, none⟩)]) ∧
      (w.alloc (.cells #[.int .i64 g.rows, .int .i64 g.cols, s] 25)).alloc (.cells #[.int .i64 p.1, .int .i64 p.2] 27) = w' := by
  go_enter Try.func20, Try.ntmps20
  go_wp2
  go_ret
  exact ⟨rfl, rfl⟩

set_option maxHeartbeats 1000000 in
theorem around1_iter (g : Gr) (p : Pt) (ga : Option Addr) (gc : Nat) (w : World) (pb gb : Nat) (Md : Nat → Prop) (hr : Right g) (hp : inside g p = true)
    (p1 : w.cell? ⟨pb, 0, none⟩ = some (.int .i64 p.1)) (p2 : w.cell? ⟨pb, 1, none⟩ = some (.int .i64 p.2))
    (g1 : w.cell? ⟨gb, 0, none⟩ = some (.int .i64 g.rows)) (g2 : w.cell? ⟨gb, 1, none⟩ = some (.int .i64 g.cols)) (g3 : w.cell? ⟨gb, 2, none⟩ = some (.slice ga g.bl.length gc))
    (hc : Cells2 w ga g.bl) (m1 : ¬ Md pb) (m2 : ¬ Md gb) (m3 : g.bl ≠ [] → ∀ b off, ga = some ⟨b, off, none⟩ → ¬ Md b) :
    Iter Try.prog 32 #[.pointer (some ⟨pb, 0, none⟩), .pointer (some ⟨gb, 0, none⟩)] (fun q : Pt => #[.agg #[.int .i64 q.1, .int .i64 q.2]]) (near g p) (fun _ A B => Ext A B) (fun n k => (k < n ∧ ¬ Md k) ∨ k = n) 1 w := by
  intro l J Jx W hW hJ hJx hY h0
  have HR := Lib.hid hr
  have hbd := inside_bd hr hp
  have HC : Hid (Cells2 W ga g.bl) := hc.ext hW
  have p1 := hW.cell p1
  have p2 := hW.cell p2
  have g1 := hW.cell g1
  have g2 := hW.cell g2
  have g3 := hW.cell g3
  have HY := Lib.hid hY
  have HJ := Lib.hid hJ
  have HJx := Lib.hid hJx
  have Hp := Lib.hid hp
  clear hc hr hY hJ hJx hW hp
  refine callsIn_of_wp Try.func32 rfl trivial ?_ rfl
  simp only [Try.ntmps32, List.size_toArray, List.length_cons, List.length_nil, Nat.reduceAdd, Nat.reduceSub, Array.replicate_succ, Array.replicate_zero, List.push_toArray, List.append_toArray, List.nil_append, List.cons_append]
  gi_wp2
  have E0 : Ext W (W.alloc (.cells #[.int .i64 (-1), .int .i64 0, .int .i64 0, .int .i64 (-1), .int .i64 0, .int .i64 1, .int .i64 1, .int .i64 0] 27)) := (Ext.refl _).alloc _
  have D0 : Cells2 (W.alloc (.cells #[.int .i64 (-1), .int .i64 0, .int .i64 0, .int .i64 (-1), .int .i64 0, .int .i64 1, .int .i64 1, .int .i64 0] 27)) (some ⟨W.heap.size, 0, none⟩) deltas := fun i hi => by
    have : i = 0 ∨ i = 1 ∨ i = 2 ∨ i = 3 := by simp [deltas] at hi; omega
    refine ⟨W.heap.size, 0, rfl, ?_, ?_⟩ <;> (rcases this with rfl | rfl | rfl | rfl <;> simp [deltas, pt] <;> go_simp)
  have Z0 : W.heap.size + 1 ≤ (W.alloc (.cells #[.int .i64 (-1), .int .i64 0, .int .i64 0, .int .i64 (-1), .int .i64 0, .int .i64 1, .int .i64 1, .int .i64 0] 27)).heap.size := by simp
  generalize W.alloc (.cells #[.int .i64 (-1), .int .i64 0, .int .i64 0, .int .i64 (-1), .int .i64 0, .int .i64 1, .int .i64 1, .int .i64 0] 27) = W0 at E0 D0 Z0 ⊢
  have hbl : Hid (g.bl ≠ [] → ∀ b off, ga = some ⟨b, off, none⟩ → b < W.heap.size) := fun hne b off hb => HC.out.lt hne hb
  have zp : pb < W.heap.size := cell_lt p1
  have zg : gb < W.heap.size := cell_lt g1
  gi_loopw [13] (fun i wr => ∃ k : Nat, k ≤ 4 ∧ i = .int .i64 k ∧ Hid (J (((nbs p).take k).filter (opn g)) wr) ∧ W.heap.size + 1 ≤ wr.heap.size ∧
      wr.cell? ⟨pb, 0, none⟩ = some (.int .i64 p.1) ∧ wr.cell? ⟨pb, 1, none⟩ = some (.int .i64 p.2) ∧ wr.cell? ⟨gb, 0, none⟩ = some (.int .i64 g.rows) ∧ wr.cell? ⟨gb, 1, none⟩ = some (.int .i64 g.cols) ∧ wr.cell? ⟨gb, 2, none⟩ = some (.slice ga g.bl.length gc) ∧
      Hid (Cells2 wr ga g.bl) ∧ Hid (Cells2 wr (some ⟨W.heap.size, 0, none⟩) deltas)) (fun i _ => 4 - (intOf i).toNat)
  case atStart => exact ⟨0, by omega, rfl, HJ.out _ _ _ h0 E0, Z0, E0.cell p1, E0.cell p2, E0.cell g1, E0.cell g2, E0.cell g3, HC.out.ext E0, D0⟩
  case round =>
    clear p1 p2 g1 g2 g3 E0 D0 Z0 h0 HC
    obtain ⟨k, hk, rfl, hj, hz, p1, p2, g1, g2, g3, hc, hd⟩ := hrel
    have zp' : pb < wr.heap.size := by omega
    have zg' : gb < wr.heap.size := by omega
    have zd' : W.heap.size < wr.heap.size := by omega
    by_cases hlt : k < 4
    · obtain ⟨b, off, hb, e1, e2⟩ := hd.out k (by simpa [deltas] using hlt)
      cases hb
      simp only [Nat.zero_add] at e1 e2
      have db := deltas_bd k hlt
      generalize hδ : pt deltas k = δ at e1 e2 db
      have Hδ := Lib.hid hδ
      clear hδ
      have hi4 : (k : Int) < 4 := by omega
      have hnx : Hid (((nbs p).take (k + 1)).filter (opn g) = ((nbs p).take k).filter (opn g) ++ if opn g (p.1 + δ.1, p.2 + δ.2) = true then [(p.1 + δ.1, p.2 + δ.2)] else []) := by
        show _ = _
        rw [nbs_pt p k hlt, List.filter_append, Hδ.out]
        simp [List.filter_cons]
      cases hin : inside g (p.1 + δ.1, p.2 + δ.2)
      · have hno : Hid (opn g (p.1 + δ.1, p.2 + δ.2) = false) := by show _ = _; unfold opn; simp [hin]
        gi_wp2_with (refine ⟨trivial, rfl, ?_⟩; gi_at_call 18; refine (callsIn_wide.2 (inside_any g (p.1 + δ.1, p.2 + δ.2) _ _)).mono ?_; rintro e w1 ⟨rfl, hE⟩; have hX : Ext wr w1 := (((Ext.refl _).alloc _).alloc _).trans hE; have a1 := hX.cell g1; have a2 := hX.cell g2; have a3 := hX.cell g3; have q1 : w1.cell? ⟨wr.heap.size + 1, 0, none⟩ = some (.int .i64 (p.1 + δ.1)) := hE.cell (by go_simp); have q2 : w1.cell? ⟨wr.heap.size + 1, 1, none⟩ = some (.int .i64 (p.2 + δ.2)) := hE.cell (by go_simp))
        refine ⟨trivial, ?_⟩
        gi_wp2
        refine ⟨(fun _ h => by cases h), ?_⟩
        gi_wp2
        refine ⟨⟨k + 1, by omega, by go_num, by unfold Hid; rw [hnx.out, hno.out]; simpa using HJ.out _ _ _ hj hX, by have := hX.size; omega, hX.cell p1, hX.cell p2, hX.cell g1, hX.cell g2, hX.cell g3, hc.out.ext hX, hd.out.ext hX⟩, by simp [intOf]; omega⟩
      · cases hbk : blk g (p.1 + δ.1, p.2 + δ.2)
        · have hyes : Hid (opn g (p.1 + δ.1, p.2 + δ.2) = true) := by show _ = _; unfold opn; simp [hin, hbk]
          gi_wp2_with fail
          refine ⟨trivial, rfl, ?_⟩
          gi_at_call 18
          refine (callsIn_wide.2 (inside_any g (p.1 + δ.1, p.2 + δ.2) _ _)).mono ?_
          rintro e w1 ⟨rfl, hE⟩
          have hX : Ext wr w1 := (((Ext.refl _).alloc _).alloc _).trans hE
          have a1 := hX.cell g1
          have a2 := hX.cell g2
          have a3 := hX.cell g3
          have q1 : w1.cell? ⟨wr.heap.size + 1, 0, none⟩ = some (.int .i64 (p.1 + δ.1)) := hE.cell (by go_simp)
          have q2 : w1.cell? ⟨wr.heap.size + 1, 1, none⟩ = some (.int .i64 (p.2 + δ.2)) := hE.cell (by go_simp)
          gi_wp2_with fail
          refine ⟨trivial, rfl, ?_⟩
          gi_at_call 19
          refine (callsIn_wide.2 (blocked_any g (p.1 + δ.1, p.2 + δ.2) ga gc _ HR.out (hc.out.ext hX))).mono ?_
          rintro e w2 ⟨rfl, hE2⟩
          have q3 := hE2.cell q1
          have q4 := hE2.cell q2
          have hX2 : Ext wr w2 := hX.trans hE2
          obtain ⟨fn, tmps, assign, body, hy, hR⟩ := HY.out _ (p.1 + δ.1, p.2 + δ.2) w2 (by
            refine List.IsPrefix.trans ?_ (List.IsPrefix.filter (opn g) (List.take_prefix (k + 1) (nbs p)))
            rw [hnx.out, hyes.out]
            exact List.prefix_refl _) (by have := hX2.size; omega) (HJ.out _ _ _ hj hX2)
          gi_wp2
          refine ⟨rfl, hR.mono ?_⟩
          clear hy hR
          rintro e w3 (⟨rfl, hj3, hk3⟩ | ⟨rfl, hj3, hk3⟩)
          · gi_wp2
            refine ⟨⟨k + 1, by omega, by go_num, by unfold Hid; rw [hnx.out, hyes.out]; exact hj3, by have := hX2.size; have := hk3.1; omega, hk3.cell (.inl ⟨zp, m1⟩) (hX2.cell p1), hk3.cell (.inl ⟨zp, m1⟩) (hX2.cell p2), hk3.cell (.inl ⟨zg, m2⟩) (hX2.cell g1), hk3.cell (.inl ⟨zg, m2⟩) (hX2.cell g2), hk3.cell (.inl ⟨zg, m2⟩) (hX2.cell g3), ?_, ?_⟩, by simp [intOf]; omega⟩
            · exact Cells2.kept hk3 (fun b off hb hne => .inl ⟨hbl.out hne b off hb, m3 hne b off hb⟩) (hc.out.ext hX2)
            · exact Cells2.kept hk3 (fun b off hb _ => .inr (by cases hb; rfl)) (hd.out.ext hX2)
          · gi_wp2
            refine bodyPost_ret (results_none rfl _ _ _) rfl ?_
            refine ⟨⟨_, rfl⟩, .inr ⟨_, ?_, hj3⟩⟩
            refine List.IsPrefix.trans ?_ (List.IsPrefix.filter (opn g) (List.take_prefix (k + 1) (nbs p)))
            rw [hnx.out, hyes.out]
            exact List.prefix_refl _
        · have hno : Hid (opn g (p.1 + δ.1, p.2 + δ.2) = false) := by show _ = _; unfold opn; simp [hbk]
          gi_wp2_with (first | (refine ⟨trivial, rfl, ?_⟩; gi_at_call 18; refine (callsIn_wide.2 (inside_any g (p.1 + δ.1, p.2 + δ.2) _ _)).mono ?_; rintro e w1 ⟨rfl, hE⟩; have hX : Ext wr w1 := (((Ext.refl _).alloc _).alloc _).trans hE; have a1 := hX.cell g1; have a2 := hX.cell g2; have a3 := hX.cell g3; have q1 : w1.cell? ⟨wr.heap.size + 1, 0, none⟩ = some (.int .i64 (p.1 + δ.1)) := hE.cell (by go_simp); have q2 : w1.cell? ⟨wr.heap.size + 1, 1, none⟩ = some (.int .i64 (p.2 + δ.2)) := hE.cell (by go_simp)) | (refine ⟨trivial, rfl, ?_⟩; gi_at_call 19; refine (callsIn_wide.2 (blocked_any g (p.1 + δ.1, p.2 + δ.2) ga gc _ HR.out (hc.out.ext hX))).mono ?_; rintro e w2 ⟨rfl, hE2⟩; have q3 := hE2.cell q1; have q4 := hE2.cell q2; have hX2 : Ext wr w2 := hX.trans hE2))
          refine ⟨(fun _ h => by cases h), ?_⟩
          gi_wp2
          refine ⟨⟨k + 1, by omega, by go_num, by unfold Hid; rw [hnx.out, hno.out]; simpa using HJ.out _ _ _ hj hX2, by have := hX2.size; omega, hX2.cell p1, hX2.cell p2, hX2.cell g1, hX2.cell g2, hX2.cell g3, hc.out.ext hX2, hd.out.ext hX2⟩, by simp [intOf]; omega⟩
    · gi_wp2
      go_end0
      refine ⟨⟨_, rfl⟩, .inl ?_⟩
      have : k = 4 := by omega
      subst this
      exact hj
end Go.Proofs.Ytechakkdcllgoaa
/- Appending to a slice of one's own: which block it has behind. -/
namespace Go.Proofs.Ytechakkdcllgoaa
open Go.RowKit

/-- behind an append: the slice lies in its old block, and that alone was written; or in a new block, and nothing was -/
def AppEnd (w w' : World) (v v' : Value) : Prop := (v'.ownBlock = v.ownBlock ∧ v.ownBlock ≠ none ∧ w.grownBy w' v.ownBlock) ∨ (v'.ownBlock = some w.heap.size ∧ Ext w w')

theorem run_append1 {P : Program} (w : World) (t ty e : TypeId) (i : TypeInfo) (z : Value) (size bytes : Nat) (ht : P.underlying t = some (.slice e)) (hi : P.info? e = some i) (hz : i.zero = some z)
    (hsize : i.size = size) (hby : i.bytes = bytes) (hzs : z.cells.size = size) (hsz : 0 < size)
    (v : Value) (n : Nat) (xs : List Value) (hown : w.ownsRow 0 e size v n xs)
    (a : Addr) (m c : Nat) (hm : 0 < m) (news : List Value) (hl : news.length = m * size) (hnews : ∀ j u, news[j]? = some u → w.cell? (a.add j) = some u) (h1 : ∀ u ∈ news, u.oneCell' = true)
    (h63 : n + m ≤ maxLen) (hbytes : (n + m) * bytes ≤ 140737488355328) :
    ∃ v' w', (Builtin.append_ #[t, t] ty #[v, .slice (some a) m c]).run P w = .ok v' w' ∧ w'.ownsRow 0 e size v' (n + m) (xs ++ news) ∧ AppEnd w w' v v' := by
  obtain ⟨v', w', hr, h2, h3, h4⟩ := run_append_own (P := P) w 0 t ty e i z size bytes ht hi hz hsize hby hzs hsz v n xs hown a m c news hl hnews h1 h63 hbytes (Nat.zero_le _)
  refine ⟨v', w', hr, h2, ?_⟩
  subst hsize
  subst hby
  have hsmall : n + m ≤ 9223372036854775807 := by simp only [maxLen] at h63; omega
  rcases hown.2 with ⟨rfl, rfl⟩ | ⟨g, cap, cur, rfl, hbg, hg, hnc, hcm, hcs, htake⟩
  · have hx := run_append_nil (P := P) w t ty e i z ht hi hz a m c news hl hnews hm (by omega) (by have hb := hbytes; simp only [Nat.zero_add] at hb; omega)
    rw [hr] at hx
    injection hx with e1 e2
    subst e1; subst e2
    exact .inr ⟨rfl, (Ext.refl _).drew.alloc _⟩
  · by_cases hroom : n + m ≤ cap
    · have hfit : n * i.size + news.length ≤ cur.size := by rw [hl, hcs, ← Nat.add_mul]; exact Nat.mul_le_mul_right _ hroom
      have hx := run_append_room (P := P) w t ty e i ht hi g n cap cur hg a m c news hl hnews h1 hroom hfit
      rw [hr] at hx
      injection hx with e1 e2
      subst e1
      exact .inl ⟨rfl, by simp [Value.ownBlock], h3⟩
    · have holds : ∀ j u, xs[j]? = some u → w.cell? ((⟨g, 0, none⟩ : Addr).add j) = some u := hown.cells (g := g) rfl
      have hx := run_append_grow (P := P) w t ty e i z ht hi hz ⟨g, 0, none⟩ n cap xs hown.1 holds a m c news hl hnews (by omega) (by omega) (growslice_fits (by omega) hbytes)
      rw [hr] at hx
      injection hx with e1 e2
      subst e1; subst e2
      exact .inr ⟨rfl, (Ext.refl _).drew.alloc _⟩

theorem wpList_append1 {P : Program} (w : World) {ops : Array Oper} {rest : List Oper} {o : Oper} {a : Act} {Q : Exit → Act → World → Prop} (hgd : o.guard = none) (s x : Operand) (t : TypeId)
    (ho : o.op = .call { callee := .builtin .append, args := #[s, x], argTypes := #[t, t] })
    (e : TypeId) (i : TypeInfo) (z : Value) (size bytes : Nat) (ht : P.underlying t = some (.slice e)) (hi : P.info? e = some i) (hz : i.zero = some z)
    (hsize : i.size = size) (hby : i.bytes = bytes) (hzs : z.cells.size = size) (hsz : 0 < size)
    (v : Value) (n : Nat) (xs : List Value) (hs : a.eval s = v) (hown : w.ownsRow 0 e size v n xs)
    (ad : Addr) (m c : Nat) (hm : 0 < m) (news : List Value) (hx : a.eval x = .slice (some ad) m c) (hl : news.length = m * size) (hnews : ∀ j u, news[j]? = some u → w.cell? (ad.add j) = some u) (h1 : ∀ u ∈ news, u.oneCell' = true)
    (h63 : n + m ≤ maxLen) (hbytes : (n + m) * bytes ≤ 140737488355328)
    (h : ∀ v' w', w'.ownsRow 0 e size v' (n + m) (xs ++ news) → AppEnd w w' v v' → wpList P ops Q rest (a.put o.dst v') w') : wpList P ops Q (o :: rest) a w := by
  obtain ⟨v', w', hr, h2, h3⟩ := run_append1 (P := P) w t o.type e i z size bytes ht hi hz hsize hby hzs hsz v n xs hown ad m c hm news hl hnews h1 h63 hbytes
  refine wpList_plain hgd fun K hK => ?_
  unfold Oper.wp execOp
  simp only [ho, resolve, invoke, builtin, Sem.run_bind, Sem.run_pure, Result.andThen_ok, List.map_toArray, List.map_cons, List.map_nil, hs, hx, hr]
  exact hK _ _ (h v' w' h2 h3)

theorem wpListIn_append1 {F : Fence} {N : Nat} {P : Program} (w : World) {ops : Array Oper} {rest : List Oper} {o : Oper} {a : Act} {Q : Exit → Act → World → Prop} (hgd : o.guard = none) (s x : Operand) (t : TypeId)
    (ho : o.op = .call { callee := .builtin .append, args := #[s, x], argTypes := #[t, t] })
    (e : TypeId) (i : TypeInfo) (z : Value) (size bytes : Nat) (ht : P.underlying t = some (.slice e)) (hi : P.info? e = some i) (hz : i.zero = some z)
    (hsize : i.size = size) (hby : i.bytes = bytes) (hzs : z.cells.size = size) (hsz : 0 < size)
    (v : Value) (n : Nat) (xs : List Value) (hs : a.eval s = v) (hown : w.ownsRow 0 e size v n xs)
    (ad : Addr) (m c : Nat) (hm : 0 < m) (news : List Value) (hx : a.eval x = .slice (some ad) m c) (hl : news.length = m * size) (hnews : ∀ j u, news[j]? = some u → w.cell? (ad.add j) = some u) (h1 : ∀ u ∈ news, u.oneCell' = true)
    (h63 : n + m ≤ maxLen) (hbytes : (n + m) * bytes ≤ 140737488355328)
    (h : ∀ v' w', w'.ownsRow 0 e size v' (n + m) (xs ++ news) → AppEnd w w' v v' → wpListIn F N P ops Q rest (a.put o.dst v') w') : wpListIn F N P ops Q (o :: rest) a w := by
  obtain ⟨v', w', hr, h2, h3⟩ := run_append1 (P := P) w t o.type e i z size bytes ht hi hz hsize hby hzs hsz v n xs hown ad m c hm news hl hnews h1 h63 hbytes
  refine wpListIn_plain hgd fun K hK => ?_
  unfold Oper.wpIn
  rw [Oper.semAt_plain F a.eval o (by intro c hc; rw [ho] at hc; cases hc)]
  refine ⟨?_, ?_⟩
  · intro f hf
    simp [Oper.about, ho, resolve, Target.leads, Sem.run_pure] at hf
  · unfold execOp
    simp only [ho, resolve, invoke, builtin, Sem.run_bind, Sem.run_pure, Result.andThen_ok, List.map_toArray, List.map_cons, List.map_nil, hs, hx, hr]
    exact hK _ _ (h v' w' h2 h3)
end Go.Proofs.Ytechakkdcllgoaa
/- The waves, in plain Lean: what the walk of the iterator needs. -/
namespace Go.Proofs.Ytechakkdcllgoaa

theorem addN_snoc (seen next qs : List Pt) (q : Pt) : addN seen next (qs ++ [q]) =
    if q ∈ (addN seen next qs).1 then addN seen next qs else (q :: (addN seen next qs).1, (addN seen next qs).2 ++ [q]) := by
  induction qs generalizing seen next with
  | nil => by_cases h : q ∈ seen <;> simp [addN, h]
  | cons a qs ih =>
    simp only [List.cons_append, addN]
    split
    · exact ih _ _
    · exact ih _ _
theorem expand_snoc (g : Gr) (seen next ps : List Pt) (p : Pt) : expand g seen next (ps ++ [p]) = addN (expand g seen next ps).1 (expand g seen next ps).2 (near g p) := by
  induction ps generalizing seen next with
  | nil => simp [expand]
  | cons a ps ih => simp only [List.cons_append, expand]; exact ih _ _
theorem near_inside {g : Gr} {p q : Pt} (h : q ∈ near g p) : inside g q = true := by
  unfold near at h
  have := (List.mem_filter.1 h).2
  unfold opn at this
  simp only [Bool.and_eq_true] at this
  exact this.1
theorem near_opn {g : Gr} {p q : Pt} (h : q ∈ near g p) : opn g q = true := (List.mem_filter.1 h).2

/-- what holds of the cells seen and those of the next wave -/
structure WI (g : Gr) (seen next : List Pt) : Prop where
  nd : seen.Nodup
  ins : ∀ q ∈ seen, inside g q = true
  sub : ∀ q ∈ next, q ∈ seen
theorem addN_inv {g : Gr} : ∀ (qs seen next : List Pt), WI g seen next → (∀ q ∈ qs, inside g q = true) →
    WI g (addN seen next qs).1 (addN seen next qs).2 ∧ (addN seen next qs).1.length + next.length = seen.length + (addN seen next qs).2.length := by
  intro qs
  induction qs with
  | nil => intro seen next h _; exact ⟨h, rfl⟩
  | cons a qs ih =>
    intro seen next h hq
    unfold addN
    split
    · exact ih _ _ h (fun q hq' => hq q (List.mem_cons_of_mem _ hq'))
    · rename_i hn
      have := ih (a :: seen) (next ++ [a]) ⟨List.nodup_cons.2 ⟨hn, h.nd⟩, fun q hq' => by
        rcases List.mem_cons.1 hq' with rfl | hq'
        · exact hq _ (List.mem_cons_self ..)
        · exact h.ins _ hq', fun q hq' => by
        rcases List.mem_append.1 hq' with hq' | hq'
        · exact List.mem_cons_of_mem _ (h.sub _ hq')
        · simp at hq'; subst hq'; exact List.mem_cons_self ..⟩ (fun q hq' => hq q (List.mem_cons_of_mem _ hq'))
      refine ⟨this.1, ?_⟩
      have := this.2
      simp at this
      omega
theorem expand_inv {g : Gr} : ∀ (ps seen next : List Pt), WI g seen next →
    WI g (expand g seen next ps).1 (expand g seen next ps).2 ∧ (expand g seen next ps).1.length + next.length = seen.length + (expand g seen next ps).2.length := by
  intro ps
  induction ps with
  | nil => intro seen next h; exact ⟨h, rfl⟩
  | cons a ps ih =>
    intro seen next h
    unfold expand
    have h1 := addN_inv (near g a) seen next h (fun q hq => near_inside hq)
    have h2 := ih _ _ h1.1
    refine ⟨h2.1, ?_⟩
    have := h1.2; have := h2.2
    omega

theorem nodup_lt : ∀ (n : Nat) (l : List Nat), l.Nodup → (∀ x ∈ l, x < n) → l.length ≤ n := by
  intro n
  induction n with
  | zero =>
    intro l _ h
    cases l with
    | nil => simp
    | cons a l => exact absurd (h a (List.mem_cons_self ..)) (Nat.not_lt_zero _)
  | succ n ih =>
    intro l hn h
    have h1 := ih (l.erase n) (hn.erase n) (fun x hx => by
      have hm := (List.Nodup.mem_erase_iff hn).1 hx
      have := h x hm.2
      have := hm.1
      omega)
    have h2 : l.length ≤ (l.erase n).length + 1 := by
      rw [List.length_erase]
      split <;> omega
    omega
def idx (p : Pt) : Nat := p.1.toNat * 64 + p.2.toNat
def InG (p : Pt) : Prop := 0 ≤ p.1 ∧ p.1 < 64 ∧ 0 ≤ p.2 ∧ p.2 < 64
theorem idx_inj {p q : Pt} (hp : InG p) (hq : InG q) (h : idx p = idx q) : p = q := by
  obtain ⟨a, b⟩ := p
  obtain ⟨c, d⟩ := q
  unfold InG idx at *
  dsimp only at *
  have h1 : a = c := by omega
  have h2 : b = d := by omega
  rw [h1, h2]
theorem idx_lt {p : Pt} (hp : InG p) : idx p < 4096 := by unfold InG idx at *; omega
theorem inG_of {g : Gr} {p : Pt} (hr : Right g) (h : inside g p = true) : InG p := by
  unfold inside at h
  simp only [Bool.and_eq_true, decide_eq_true_eq] at h
  have := hr.r2; have := hr.c2
  unfold InG
  omega
theorem nodup_pts {l : List Pt} (hn : l.Nodup) (h : ∀ p ∈ l, InG p) : l.length ≤ 4096 := by
  rw [← List.length_map (f := idx)]
  refine nodup_lt 4096 _ ?_ ?_
  · unfold List.Nodup at *
    rw [List.pairwise_map]
    refine List.Pairwise.imp_of_mem ?_ hn
    intro a b ha hb hab e
    exact hab (idx_inj (h a ha) (h b hb) e)
  · intro x hx
    obtain ⟨p, hp, rfl⟩ := List.mem_map.1 hx
    exact idx_lt (h p hp)
theorem WI.len {g : Gr} {seen next : List Pt} (h : WI g seen next) (hr : Right g) : seen.length ≤ 4096 := nodup_pts h.nd (fun p hp => inG_of hr (h.ins p hp))

/-- the waves from a state on, unfolded once -/
theorem waves_step (g : Gr) (f : Nat) (seen now : List Pt) (far : Nat) (h : now ≠ []) :
    waves g (f + 1) seen now far = now.map (fun p => (p, far)) ++ waves g f (expand g seen [] now).1 (expand g seen [] now).2 (far + 1) := by
  rw [waves, if_neg h]
theorem waves_nil (g : Gr) (f : Nat) (seen : List Pt) (far : Nat) : waves g f seen [] far = [] := by
  cases f with
  | zero => rfl
  | succ f => rw [waves, if_pos rfl]
end Go.Proofs.Ytechakkdcllgoaa
/- What is kept: the laws by which the walks of the iterators carry their facts on. -/
namespace Go.Proofs.Ytechakkdcllgoaa
open Go.RowKit

theorem Kept.mono {X Y : Nat → Prop} {n : Nat} {A B : World} (h : Kept X n A B) (hxy : ∀ k, Y k → X k) : Kept Y n A B := ⟨h.1, fun k o hk => h.2 k o (hxy k hk)⟩
theorem Kept.block {X : Nat → Prop} {n k : Nat} {A B : World} (h : Kept X n A B) (hk : X k) {o : Obj} (ho : A.heap[k]? = some o) (hr : isRec o = false ∨ n ≤ k) : B.heap[k]? = some o := h.2 k o hk ho hr
theorem Kept.frozen {X : Nat → Prop} {n : Nat} {A B : World} (h : Kept X n A B) {p : Addr} {v : Value} (hk : X p.block) (hc : A.cell? p = some v) : B.frozen? p = A.frozen? p := by
  have hlt := cell_lt hc
  obtain ⟨o, ho⟩ : ∃ o, A.heap[p.block]? = some o := ⟨_, Array.getElem?_eq_getElem hlt⟩
  have hr : isRec o = false := by
    cases o <;> simp [World.cell?, ho] at hc <;> rfl
  exact World.frozen?_of_block (w := A) ((h.2 _ _ hk ho (.inl hr)).trans ho.symm)

/-- the array of the cells seen -/
def SeenAt (w : World) (sb : Nat) (S : List Pt) : Prop :=
  ∀ q : Pt, InG q → w.cell? ⟨sb, q.1.toNat * 64 + q.2.toNat, none⟩ = some (.bool (decide (q ∈ S))) ∧ w.frozen? ⟨sb, q.1.toNat * 64 + q.2.toNat, none⟩ = false
theorem SeenAt.kept {X : Nat → Prop} {n sb : Nat} {A B : World} {S : List Pt} (hs : SeenAt A sb S) (h : Kept X n A B) (hk : X sb) : SeenAt B sb S := fun q hq =>
  ⟨h.cell (p := ⟨sb, _, none⟩) hk (hs q hq).1, (h.frozen (p := ⟨sb, _, none⟩) hk (hs q hq).1).trans (hs q hq).2⟩
theorem SeenAt.ext {sb : Nat} {A B : World} {S : List Pt} (hs : SeenAt A sb S) (h : Ext A B) : SeenAt B sb S := hs.kept (Kept.ext h (fun _ => True) 0) trivial
theorem SeenAt.set {sb : Nat} {A : World} {S : List Pt} (hs : SeenAt A sb S) {p : Pt} (hp : InG p) : SeenAt (A.setCell ⟨sb, p.1.toNat * 64 + p.2.toNat, none⟩ (.bool true)) sb (p :: S) := fun q hq => by
  refine ⟨?_, by rw [World.frozen?_setCell]; exact (hs q hq).2⟩
  by_cases e : q = p
  · subst e
    rw [World.cell?_setCell_same A _ _ (hs q hq).1]
    simp
  · rw [World.cell?_setCell_other A _ _ _ (by
      intro h
      simp only [Addr.mk.injEq, true_and, and_true] at h
      exact e (idx_inj hp hq h).symm), (hs q hq).1]
    simp [e]
theorem SeenAt.drew {sb : Nat} {A : World} {S : List Pt} (hs : SeenAt A sb S) : SeenAt A.drew sb S := hs.ext (Ext.refl _).drew

def flat (l : List Pt) : List Value := l.flatMap fun p => [.int .i64 p.1, .int .i64 p.2]
theorem flat_append (l m : List Pt) : flat (l ++ m) = flat l ++ flat m := by simp [flat]
theorem flat_length (l : List Pt) : (flat l).length = l.length * 2 := by
  induction l with
  | nil => rfl
  | cons a l ih => simp only [flat, List.flatMap_cons, List.length_append, List.length_cons, List.length_nil] at *; omega
theorem flat_get (l : List Pt) (i : Nat) (h : i < l.length) : (flat l)[i * 2]? = some (.int .i64 (pt l i).1) ∧ (flat l)[i * 2 + 1]? = some (.int .i64 (pt l i).2) := by
  induction l generalizing i with
  | nil => simp at h
  | cons a l ih =>
    cases i with
    | zero => simp [flat, pt]
    | succ i =>
      have := ih i (by simpa using h)
      rw [show (i + 1) * 2 = i * 2 + 2 from by omega]
      simpa [flat, pt] using this

/-- the slice value v owns the places N -/
def Owns (w : World) (v : Value) (N : List Pt) : Prop := w.ownsRow 0 27 2 v N.length (flat N)
theorem Owns.nil (w : World) : Owns w (.slice none 0 0) [] := World.ownsRow_nil w 0 _ _
theorem Owns.kept {X : Nat → Prop} {n : Nat} {A B : World} {v : Value} {N : List Pt} (ho : Owns A v N) (h : Kept X n A B) (hk : ∀ b, v.ownBlock = some b → X b) : Owns B v N := by
  obtain ⟨h1, h2⟩ := ho
  refine ⟨h1, ?_⟩
  rcases h2 with h2 | ⟨g, cap, cur, hv, hg, hh, r⟩
  · exact .inl h2
  · exact .inr ⟨g, cap, cur, hv, hg, h.2 g _ (hk g (by rw [hv]; rfl)) hh (.inl rfl), r⟩
theorem Owns.ext {A B : World} {v : Value} {N : List Pt} (ho : Owns A v N) (h : Ext A B) : Owns B v N := ho.kept (Kept.ext h (fun _ => True) 0) (fun _ _ => trivial)
theorem Owns.lt {A : World} {v : Value} {N : List Pt} (ho : Owns A v N) {b : Nat} (hb : v.ownBlock = some b) : b < A.heap.size := (World.ownsRow.lt ho b hb).2
/-- it reads as a slice of places -/
theorem Owns.reads {A : World} {v : Value} {N : List Pt} (ho : Owns A v N) : ∃ a cap, v = .slice a N.length cap ∧ Cells2 A a N ∧ (∀ b off, a = some ⟨b, off, none⟩ → v.ownBlock = some b) := by
  rcases ho.2 with ⟨hv, hn⟩ | ⟨g, cap, cur, hv, hg, hh, hnc, hm, hcs, ht⟩
  · have : N = [] := List.eq_nil_of_length_eq_zero hn
    subst this
    exact ⟨none, 0, hv, fun i hi => by simp at hi, fun b off h => by cases h⟩
  · refine ⟨some ⟨g, 0, none⟩, cap, hv, fun i hi => ?_, fun b off h => by cases h; rw [hv]; rfl⟩
    have hc := World.ownsRow.cells ho (g := g) (by rw [hv]; rfl)
    have h1 := flat_get N i hi
    have a1 := hc _ _ h1.1
    have a2 := hc _ _ h1.2
    rw [Addr.add_lit] at a1 a2
    exact ⟨g, 0, rfl, a1, a2⟩
theorem Marks.keptX {X : Nat → Prop} {n : Nat} {ds : List Deferred} {A B : World} (hm : Marks n ds A) (h : Kept X n A B) (hk : ∀ D, n ≤ D → A.heap[D]? = some (.deferred (some [])) → X D) : Marks n ds B :=
  hm.kept fun D hD ho => h.2 D _ (hk D hD ho) ho (.inr hD)
theorem Kept.setCell {X : Nat → Prop} {n : Nat} {A : World} (p : Addr) (v : Value) (hx : ¬ X p.block) : Kept X n A (A.setCell p v) :=
  ⟨by simp [World.setCell], fun k o hk ho _ => by
    rw [Below.heap_setCell _ _ _ _ (fun e => hx (e ▸ hk))]; exact ho⟩
theorem Kept.drew (X : Nat → Prop) (n : Nat) (A : World) : Kept X n A A.drew := Kept.ext (Ext.refl _).drew _ _
theorem Kept.grown {X : Nat → Prop} {n : Nat} {A B : World} {v v' : Value} (h : AppEnd A B v v') (hx : ∀ b, v.ownBlock = some b → ¬ X b) : Kept X n A B := by
  rcases h with ⟨_, _, hg⟩ | ⟨_, he⟩
  · exact ⟨hg.size, fun k o hk ho _ => by
      rw [hg.block k (Array.getElem?_eq_some_iff.1 ho).1 (fun e => hx k e.symm hk)]; exact ho⟩
  · exact Kept.ext he _ _
theorem AppEnd.below {n : Nat} {A B : World} {v v' : Value} (h : AppEnd A B v v') (hn : n ≤ A.heap.size) (hv : ∀ b, v.ownBlock = some b → n ≤ b) : Below n A B := by
  rcases h with ⟨_, _, hg⟩ | ⟨_, he⟩
  · exact (Below.refl _ _).grown hg hn hv
  · exact he.mono hn

theorem Kept.keep {X : Nat → Prop} {n : Nat} {w A B : World} (h : Kept X n w A) (k : Keep w.heap.size A B) : Kept X n w B :=
  ⟨Nat.le_trans h.1 k.1.size, fun i o hx hi hr => by
    have ha := h.2 i o hx hi hr
    rw [k.1.block i (Array.getElem?_eq_some_iff.1 hi).1]; exact ha⟩
theorem Kept.ext' {X : Nat → Prop} {n : Nat} {w A B : World} (h : Kept X n w A) (k : Ext A B) : Kept X n w B := h.trans (Kept.ext k _ _)
theorem Owns.keep {m : Nat} {A B : World} {v : Value} {N : List Pt} (ho : Owns A v N) (h : Keep m A B) : Owns B v N := by
  obtain ⟨h1, h2⟩ := ho
  refine ⟨h1, ?_⟩
  rcases h2 with h2 | ⟨g, cap, cur, hv, hg, hh, r⟩
  · exact .inl h2
  · exact .inr ⟨g, cap, cur, hv, hg, h.2 g _ hh rfl, r⟩
theorem SeenAt.below {m sb : Nat} {A B : World} {S : List Pt} (hs : SeenAt A sb S) (h : Below m A B) (hm : sb < m) : SeenAt B sb S := fun q hq =>
  ⟨(h.cell (p := ⟨sb, _, none⟩) hm).trans (hs q hq).1, (h.frozen (p := ⟨sb, _, none⟩) hm).trans (hs q hq).2⟩

theorem Keep.cell {m : Nat} {A B : World} (h : Keep m A B) {p : Addr} {v : Value} (hc : A.cell? p = some v) : B.cell? p = some v := by
  have hlt := cell_lt hc
  obtain ⟨o, ho⟩ : ∃ o, A.heap[p.block]? = some o := ⟨_, Array.getElem?_eq_getElem hlt⟩
  have hr : isRec o = false := by
    cases o <;> simp [World.cell?, ho] at hc <;> rfl
  exact (World.cell?_of_block (w := A) ((h.2 _ _ ho hr).trans ho.symm)).trans hc

/-- while the cells around one are looked at -/
structure WRng (n nb : Nat) (X : Nat → Prop) (S0 N0 : List Pt) (v0 : Value) (JJ : World → Prop) (w3 : World) (prq : List Pt) (W' : World) : Prop where
  j : JJ W'
  kp : Kept X n w3 W'
  sn : SeenAt W' n (addN S0 N0 prq).1
  nx : ∃ v, W'.cell? ⟨nb, 0, none⟩ = some v ∧ W'.frozen? ⟨nb, 0, none⟩ = false ∧ Owns W' v (addN S0 N0 prq).2 ∧ (v.ownBlock = v0.ownBlock ∨ ∃ b, v.ownBlock = some b ∧ w3.heap.size + 2 < b)
theorem WRng.ext {n nb : Nat} {X : Nat → Prop} {S0 N0 : List Pt} {v0 : Value} {JJ : World → Prop} {w3 : World} {prq : List Pt} {A B : World} (h : WRng n nb X S0 N0 v0 JJ w3 prq A)
    (hJ : ∀ A B, JJ A → Below n A B → JJ B) (hn : n < w3.heap.size) (k : Ext A B) : WRng n nb X S0 N0 v0 JJ w3 prq B := by
  obtain ⟨v, a, b, c, d⟩ := h.nx
  have hs := h.kp.1
  exact ⟨hJ _ _ h.j (k.mono (by omega)), h.kp.ext' k, h.sn.ext k, v, k.cell a, (Below.frozen k (p := ⟨nb, 0, none⟩) (cell_lt a)).trans b, c.ext k, d⟩
theorem WRng.keep {n nb : Nat} {X : Nat → Prop} {S0 N0 : List Pt} {v0 : Value} {JJ : World → Prop} {w3 : World} {prq : List Pt} {A B : World} (h : WRng n nb X S0 N0 v0 JJ w3 prq A)
    (hJ : ∀ A B, JJ A → Below n A B → JJ B) (hn : n < w3.heap.size) (hnb : nb < w3.heap.size) (k : Keep w3.heap.size A B) : WRng n nb X S0 N0 v0 JJ w3 prq B := by
  obtain ⟨v, a, b, c, d⟩ := h.nx
  exact ⟨hJ _ _ h.j (k.1.mono (by omega)), h.kp.keep k, h.sn.below k.1 hn, v, (k.1.cell (p := ⟨nb, 0, none⟩) hnb).trans a, (k.1.frozen (p := ⟨nb, 0, none⟩) hnb).trans b, c.keep k, d⟩

/-- of what is in A only the blocks k with B k may turn -/
def Chg (B : Nat → Prop) (A C : World) : Prop := A.heap.size ≤ C.heap.size ∧ ∀ k, k < A.heap.size → ¬ B k → C.heap[k]? = A.heap[k]?
theorem Chg.refl (B : Nat → Prop) (A : World) : Chg B A A := ⟨Nat.le_refl _, fun _ _ _ => rfl⟩
theorem Chg.trans {B : Nat → Prop} {A C D : World} (h : Chg B A C) (k : Chg B C D) : Chg B A D :=
  ⟨Nat.le_trans h.1 k.1, fun i hi hb => (k.2 i (Nat.lt_of_lt_of_le hi h.1) hb).trans (h.2 i hi hb)⟩
theorem Chg.ext {B : Nat → Prop} {A C : World} (h : Ext A C) : Chg B A C := ⟨h.size, fun k hk _ => Below.block h k hk⟩
theorem Chg.setCell {B : Nat → Prop} {A : World} (p : Addr) (v : Value) (hb : B p.block) : Chg B A (A.setCell p v) :=
  ⟨by simp [World.setCell], fun k _ hk => Below.heap_setCell _ _ _ _ (fun e => hk (e ▸ hb))⟩
theorem Chg.app {B : Nat → Prop} {A C : World} {v v' : Value} (h : AppEnd A C v v') (hb : ∀ b, v.ownBlock = some b → B b) : Chg B A C := by
  rcases h with ⟨_, _, hg⟩ | ⟨_, he⟩
  · exact ⟨hg.size, fun k hk hn => hg.block k hk (fun e => hn (hb k e.symm))⟩
  · exact Chg.ext he
theorem Chg.kept {B X : Nat → Prop} {n : Nat} {A C : World} (h : Chg B A C) (hx : ∀ k, X k → k < A.heap.size → ¬ B k) : Kept X n A C :=
  ⟨h.1, fun k o hk ho _ => by
    have hl := (Array.getElem?_eq_some_iff.1 ho).1
    rw [h.2 k hl (hx k hk hl)]; exact ho⟩
theorem Chg.others {B : Nat → Prop} {A C : World} (h : Chg B A C) (hb : ∀ k, B k → ∀ o, A.heap[k]? = some o → o.isCells = true) : KeepsOthers A C :=
  ⟨h.1, fun k o ho hc => by
    have hl := (Array.getElem?_eq_some_iff.1 ho).1
    rw [h.2 k hl (fun hk => by rw [hb k hk o ho] at hc; cases hc)]; exact ho⟩
theorem isCells_of_cell {A : World} {p : Addr} {v : Value} (h : A.cell? p = some v) {o : Obj} (ho : A.heap[p.block]? = some o) : o.isCells = true := by
  cases o <;> simp [World.cell?, ho] at h <;> rfl
theorem Owns.isCells {A : World} {v : Value} {N : List Pt} (h : Owns A v N) {b : Nat} (hb : v.ownBlock = some b) {o : Obj} (ho : A.heap[b]? = some o) : o.isCells = true := by
  rcases h.2 with ⟨hv, _⟩ | ⟨g, cap, cur, hv, _, hh, _⟩
  · rw [hv] at hb; cases hb
  · rw [hv] at hb; cases hb
    rw [hh] at ho; cases ho; rfl
theorem Below.chg {n : Nat} {B : Nat → Prop} {A C : World} (hs : C.os = A.os ∧ C.tape = A.tape ∧ C.output = A.output) (h : Chg B A C) (hb : ∀ k, B k → n ≤ k) (hn : n ≤ A.heap.size) : Below n A C :=
  ⟨hs.1, hs.2.1, hs.2.2, h.1, fun k hk => h.2 k (by omega) (fun hB => by have := hb k hB; omega)⟩
theorem cell_two_new (w : World) (a b : Value) (t : TypeId) : ∀ j u, ([a, b] : List Value)[j]? = some u → (w.alloc (.cells #[a, b] t)).cell? ((⟨w.heap.size, 0, none⟩ : Addr).add j) = some u := by
  intro j u h
  match j, h with
  | 0, h => simp at h; subst h; rw [Addr.add_lit, World.cell?_alloc_new]; rfl
  | 1, h => simp at h; subst h; rw [Addr.add_lit, World.cell?_alloc_new]; rfl
theorem owns_succ {w : World} {v : Value} {N : List Pt} {q : Pt} (h : w.ownsRow 0 27 2 v (N.length + 1) (flat N ++ [.int .i64 q.1, .int .i64 q.2])) : Owns w v (N ++ [q]) := by
  unfold Owns
  rw [List.length_append, List.length_singleton, flat_append]
  exact h
end Go.Proofs.Ytechakkdcllgoaa
/- Regions that draw their order, within a round of a loop over a function: they go as everywhere. -/
namespace Go.Proofs.Ytechakkdcllgoaa
open Go.RowKit

/-- no operation is a defer statement -/
def noDefer (ops : Array Oper) : Bool := ops.all fun o => match o.op with | .defer _ => false | _ => true

section
variable {P : Program} {ops : Array Oper} {Q : Exit → Act → World → Prop} {md : Region.Mode} {l n : Nat}

theorem oper_round {o : Oper} {a : Act} {w : World} {K K' : Act → World → Prop} (hd : ∀ c, o.op ≠ .defer c) (_hQ : ¬ LetsOut Q) (hK : ∀ a w, K a w → K' a w) (h : o.wp P a w K Q) :
    o.wpIn (Fence.wide.inRound l) n P a w K' Q := by
  unfold Oper.wpIn
  refine ⟨fun _ _ => trivial, ?_⟩
  rw [Oper.semAt_plain (Fence.wide.inRound l) a.eval o hd]
  unfold Oper.wp at h
  generalize (execOp a.eval o).run P w = r at h ⊢
  cases r with
  | ok x w' =>
    cases x with
    | value v => exact hK _ _ h
    | skip => exact hK _ _ h
    | defer d => exact hK _ _ h
    | enter f args =>
      refine ⟨fun e => (by cases e), CallsIn.inRound l (callsIn_wide.2 (Calls.mono h fun e w'' he => ?_))⟩
      cases e with
      | returned v => exact hK _ _ he
      | panicked c => exact he
      | outgrown => exact he
    | row row args =>
      refine ⟨fun e => (by cases e), ?_⟩
      intro c cs _
      obtain ⟨v, w'', hv, hs⟩ := h c cs
      exact ⟨v, w'', hK _ _ hv, stepsIn_wide.2 hs⟩
    | _ => exact h.elim
  | halt x w' =>
    cases x with
    | panic v => exact h
    | _ => exact h.elim

theorem any_round (hd : noDefer ops = true) (hQ : ¬ LetsOut Q) : ∀ (fuel : Nat) (listed : Array Bool) (a : Act) (w : World), wpAny P md ops Q fuel listed a w → wpAnyIn (Fence.wide.inRound l) n P md ops Q fuel listed a w
  | 0, _, _, _, h => h
  | fuel + 1, listed, a, w, h => by
    refine ⟨h.1, fun i hi => ?_⟩
    have hi' := h.2 i hi
    unfold wpOp at hi'
    unfold wpOpIn
    cases ho : ops[i]? with
    | none => rw [ho] at hi'; exact any_round hd hQ fuel _ a w hi'
    | some o =>
      rw [ho] at hi'
      have hdo : ∀ c, o.op ≠ .defer c := fun c e => by
        have hm := Array.all_eq_true'.1 hd o (Array.mem_of_getElem? ho)
        rw [e] at hm
        cases hm
      dsimp only at hi' ⊢
      split
      · rename_i hw
        rw [if_pos hw] at hi'
        rcases hi' with hi' | ⟨_, hi'⟩
        · exact oper_round hdo hQ (fun a w => any_round hd hQ fuel _ a w) hi'
        · exact absurd hi' hQ
      · rename_i hw
        rw [if_neg hw] at hi'
        exact ⟨fun _ _ => trivial, any_round hd hQ fuel _ _ w hi'⟩

/-- only reads: one walk in the text's order -/
theorem round_quiet {id : Nat} {a : Act} {w : World} {ol : List Oper} (hm : P.follows .mixedOrders = true) (hB : Region.lexB .any ol.toArray = true) (hd : noDefer ol.toArray = true) (hQ : ¬ LetsOut Q)
    (h : wpQuiet P ol.toArray (fun w' => ∃ n, w' = w.drewN n) (fun a' => ∀ w', (∃ n, w' = w.drewN n) → Q .normal a' w') ol a) : (Code.region id ol.toArray true).wpIn (Fence.wide.inRound l) n P Q a w := by
  simp only [Region.lexB, Bool.and_eq_true] at hB
  refine wpIn_region_any hm (any_round hd hQ _ _ _ _ ?_)
  refine wpAny_of_quiet (C := fun w' => ∃ n, w' = w.drewN n) (Q := fun a' => ∀ w', (∃ n, w' = w.drewN n) → Q .normal a' w') (fun _ w' hw' h => h w' hw') _ _ _ _ ⟨1, rfl⟩ ?_
  have := wpAnyQ_lex (C := fun w' => ∃ n, w' = w.drewN n) (md := .any) hB.1 ol 0 (Array.replicate ol.toArray.size false) a (fun j => by simp) (by simpa using hB.2) h
  simpa using this

/-- reads, and then a store or the like -/
theorem round_tail {id : Nat} {a : Act} {w : World} {ol : List Oper} (k : Nat) (hm : P.follows .mixedOrders = true) (hB : Region.lexTailB .any ol.toArray k = true) (hd : noDefer ol.toArray = true) (hQ : ¬ LetsOut Q)
    (h : wpStill P ol.toArray w.drew (fun a' => wpList P ol.toArray Q (ol.drop k) a' w.drew) (ol.take k) a) : (Code.region id ol.toArray true).wpIn (Fence.wide.inRound l) n P Q a w := by
  refine wpIn_region_any hm (any_round hd hQ _ _ _ _ ?_)
  simp only [Region.lexTailB, Bool.and_eq_true, decide_eq_true_eq] at hB
  obtain ⟨⟨⟨⟨b1, b2⟩, b3⟩, b4⟩, b5⟩ := hB
  have hlen : ol.toArray.size = ol.length := by simp
  have e1 : (ol.take k).length = k := by rw [List.length_take]; omega
  have e2 : (ol.drop k).length = ol.toArray.size - k := by rw [List.length_drop, hlen]
  have inv : HeadInv .any ol.toArray k (Array.replicate ol.toArray.size false) := by
    refine ⟨by simp, ?_, ?_⟩
    · intro j oj _ hl
      rw [getD_replicate_false] at hl
      cases hl
    · intro t _ ht
      exact getD_in (by simpa using ht) (getD_replicate_false _ _)
  have key := wpAnyL_lex (md := .any) (g := ol.toArray.size - k) b1 b3 b4 b2 (ol.take k) 0 _ a (fun j hj => by
    have : j < k := by omega
    simp [this]) (by omega) inv (by rw [e1]; exact b5) h
  have fin := wpAny_of_head (Q' := Q) (g := ol.toArray.size - k) (fun listed a' hL => by
    have hs := wpAny_of_seq (md := .any) (Q' := Q) (ol.drop k) k listed a' w.drew (fun j => by simp [List.getElem?_drop]) (by rw [e2]; exact hL.1) hL.2
    rwa [e2] at hs) _ _ _ key
  rw [e1, show k + (ol.toArray.size - k) = ol.toArray.size by omega] at fin
  exact fin
end
end Go.Proofs.Ytechakkdcllgoaa
/- The waves: the loop over the cells around one. -/
namespace Go.Proofs.Ytechakkdcllgoaa
open Go.RowKit
attribute [local go_sem] Oper.semAt_some

def inWave (n nb : Nat) (v0 : Value) (k : Nat) : Prop := k = n ∨ k = nb ∨ v0.ownBlock = some k

theorem infoPl : (Try.prog.info? 27).map (fun i => (i.zero, i.size, i.bytes)) = some (some (.agg #[.int .i64 0, .int .i64 0]), 2, 16) := by kernel_rfl

set_option maxHeartbeats 4000000 in
set_option maxRecDepth 100000 in
theorem wave1_range (cas cbd : Code) (hcode : rngOf (Try.f30.body.getD .skip) = [(cas, cbd)]) (g : Gr) (x : Pt) (ga : Option Addr) (gc : Nat) (w3 : World) (pb gb n nb : Nat) (X : Nat → Prop) (S0 N0 : List Pt) (v0 : Value) (JJ : World → Prop)
    (hr : Right g) (hx : inside g x = true) (hwi : WI g S0 N0) (hN0 : N0.length ≤ 4096)
    (p1 : w3.cell? ⟨pb, 0, none⟩ = some (.int .i64 x.1)) (p2 : w3.cell? ⟨pb, 1, none⟩ = some (.int .i64 x.2))
    (g1 : w3.cell? ⟨gb, 0, none⟩ = some (.int .i64 g.rows)) (g2 : w3.cell? ⟨gb, 1, none⟩ = some (.int .i64 g.cols)) (g3 : w3.cell? ⟨gb, 2, none⟩ = some (.slice ga g.bl.length gc))
    (hc : Cells2 w3 ga g.bl) (m1 : ¬ inWave n nb v0 pb) (m2 : ¬ inWave n nb v0 gb) (m3 : g.bl ≠ [] → ∀ b off, ga = some ⟨b, off, none⟩ → ¬ inWave n nb v0 b)
    (hX : ∀ k, X k → ¬ inWave n nb v0 k) (hJ : ∀ A B, JJ A → Below n A B → JJ B) (hn : n < nb) (hnb : nb < w3.heap.size) (hv : ∀ b, v0.ownBlock = some b → nb < b ∧ b < w3.heap.size)
    (j0 : JJ w3) (s0 : SeenAt w3 n S0) (n1 : w3.cell? ⟨nb, 0, none⟩ = some v0) (n2 : w3.frozen? ⟨nb, 0, none⟩ = false) (n3 : Owns w3 v0 N0)
    (u0 u1 u2 u3 u5 u6 u8 u9 u10 u11 u12 u13 u14 u15 u16 u17 u18 u19 u20 u21 u22 u23 u24 u25 u26 u27 u28 u29 u30 u31 u32 u33 u34 u35 u36 u38 u39 u40 u41 u42 u43 u44 u45 u46 u47 u48 u49 u50 u51 u52 u53 u54 u55 u56 u57 u58 : Value) (ds : List Deferred) (Q : Exit → Act → World → Prop)
    (hdone : ∀ (D : Nat) (W : World), w3.heap.size ≤ D → D < W.heap.size → WRng n nb X S0 N0 v0 JJ w3 (near g x) W → W.heap[D]? = some (.deferred (some [])) → Q .normal { tmps := #[u0, u1, u2, u3, .pointer (some ⟨n, 0, none⟩), u5, u6, .pointer (some ⟨nb, 0, none⟩), u8, u9, u10, u11, u12, u13, u14, u15, u16, u17, u18, u19, u20, u21, u22, u23, u24, u25, u26, u27, u28, u29, u30, u31, u32, u33, u34, u35, u36, .func (.func 32) #[] #[.pointer (some ⟨pb, 0, none⟩), .pointer (some ⟨gb, 0, none⟩)], u38, u39, u40, u41, u42, u43, u44, u45, u46, u47, u48, u49, u50, u51, u52, u53, u54, u55, u56, u57, u58], defers := mark D :: ds } W) :
    (Code.rangeFunc (.tmp 37) #[38] cas cbd).wp Try.prog Q { tmps := #[u0, u1, u2, u3, .pointer (some ⟨n, 0, none⟩), u5, u6, .pointer (some ⟨nb, 0, none⟩), u8, u9, u10, u11, u12, u13, u14, u15, u16, u17, u18, u19, u20, u21, u22, u23, u24, u25, u26, u27, u28, u29, u30, u31, u32, u33, u34, u35, u36, .func (.func 32) #[] #[.pointer (some ⟨pb, 0, none⟩), .pointer (some ⟨gb, 0, none⟩)], u38, u39, u40, u41, u42, u43, u44, u45, u46, u47, u48, u49, u50, u51, u52, u53, u54, u55, u56, u57, u58], defers := ds } w3 := by
  have HC := Lib.hid hcode
  have HR := Lib.hid hr
  refine wp_range (n := 0) (gf := 32) (lb := #[.pointer (some ⟨pb, 0, none⟩), .pointer (some ⟨gb, 0, none⟩)]) rfl (enters_of Try.func32 (by kernel_rfl) rfl)
    (around1_iter g x ga gc w3 pb gb (inWave n nb v0) hr hx p1 p2 g1 g2 g3 hc m1 m2 m3) (fun q => rfl)
    (fun A B h k o hk ho => by rw [Below.block h k (Array.getElem?_eq_some_iff.1 ho).1]; exact ho)
    (WRng n nb X S0 N0 v0 JJ w3) (fun _ _ _ => False)
    (fun pre A B h k => h.ext hJ (by omega) k) (fun _ _ _ _ h _ => h.elim)
    (fun pre A B h k => h.keep hJ (by omega) hnb k) (fun _ _ _ _ h _ => h.elim)
    ⟨j0, Kept.refl _ _ _, s0, v0, n1, n2, n3, .inl rfl⟩
    (fun (q : Pt) a' W => ∃ qb, w3.heap.size + 2 < qb ∧ W.cell? ⟨qb, 0, none⟩ = some (.int .i64 q.1) ∧ W.cell? ⟨qb, 1, none⟩ = some (.int .i64 q.2) ∧ a' = { tmps := #[u0, u1, u2, u3, .pointer (some ⟨n, 0, none⟩), u5, u6, .pointer (some ⟨nb, 0, none⟩), u8, u9, .pointer (some ⟨qb, 0, none⟩), u11, u12, u13, u14, u15, u16, u17, u18, u19, u20, u21, u22, u23, u24, u25, u26, u27, u28, u29, u30, u31, u32, u33, u34, u35, u36, .func (.func 32) #[] #[.pointer (some ⟨pb, 0, none⟩), .pointer (some ⟨gb, 0, none⟩)], .agg #[.int .i64 q.1, .int .i64 q.2], u39, u40, u41, u42, u43, u44, u45, u46, u47, u48, u49, u50, u51, u52, u53, u54, u55, u56, u57, u58], defers := [] })
    ?hax ?assign ?body (fun pre A B h k => h.ext hJ (by omega) k) ?done (fun _ _ _ _ _ _ _ h _ => h.elim)
  case hax =>
    rintro q a' A B ⟨qb, h1, h2, h3, h4⟩ hk
    exact ⟨qb, h1, hk.cell h2, hk.cell h3, h4⟩
  case assign =>
    simp only [Try.f30, rngOf, Option.getD, List.nil_append, List.append_nil] at hcode
    cases hcode
    intro l pre q W K hm hI hK
    clear HC
    gi_wp2
    exact hK _ _ ((Ext.refl _).alloc _) ⟨W.heap.size, by omega, by go_simp, by go_simp, rfl⟩
  case body =>
    simp only [Try.f30, rngOf, Option.getD, List.nil_append, List.append_nil] at hcode
    cases hcode
    rintro l pre q a' W hpre hm hI ⟨qb, hqb, q1, q2, rfl⟩
    have hqn : q ∈ near g x := hpre.subset (by simp)
    have hqi : inside g q = true := near_inside hqn
    obtain ⟨r1, r2, r3, r4⟩ := inG_of HR.out hqi
    have hsn := addN_snoc S0 N0 pre q
    have hwp := addN_inv pre S0 N0 hwi (fun y hy => near_inside (hpre.subset (by simp [hy])))
    have HQ := Lib.hid hqi
    have HS := Lib.hid hsn
    have HI := Lib.hid hI
    have HW := Lib.hid hwp
    have HQN := Lib.hid hqn
    have HJ := Lib.hid hJ
    have HXX := Lib.hid hX
    have HV := Lib.hid hv
    have hDW : n < W.heap.size := by omega
    have c1 := (hI.sn q ⟨r1, r2, r3, r4⟩).1
    have c2 := (hI.sn q ⟨r1, r2, r3, r4⟩).2
    clear HC hqn hqi hsn hI hwp hX hJ hv m1 m2 m3 hc s0 n3 j0 p1 p2 g1 g2 g3 n1 n2
    by_cases hmem : q ∈ (addN S0 N0 pre).1
    · rw [show decide (q ∈ (addN S0 N0 pre).1) = true from by simpa using hmem] at c1
      have HM := Lib.hid hmem
      clear hmem
      gi_wp2
      refine round_quiet (by kernel_rfl) (by kernel_rfl) (by kernel_rfl) (fun ⟨_, _, h⟩ => h) ?_
      repeat (go_big_quiet_step (fail))
      refine wpQuiet_nil ?_
      rintro _ ⟨nq, rfl⟩
      gi_wp2
      have hd : Ext W (W.drewN nq) := (Ext.refl _).drewN _
      refine ⟨Kept.ext hd _ _, (Chg.others (Chg.ext (B := fun _ => False) hd) (fun _ h => h.elim)).from _, ?_⟩
      have := HI.out.ext HJ.out (by omega) hd
      have e : addN S0 N0 (pre ++ [q]) = addN S0 N0 pre := by rw [HS.out, if_pos HM.out]
      exact ⟨this.j, this.kp, by rw [e]; exact this.sn, by rw [e]; exact this.nx⟩
    · rw [show decide (q ∈ (addN S0 N0 pre).1) = false from by simpa using hmem] at c1
      have HM := Lib.hid hmem
      clear hmem
      gi_wp2
      refine round_quiet (by kernel_rfl) (by kernel_rfl) (by kernel_rfl) (fun ⟨_, _, h⟩ => h) ?_
      repeat (go_big_quiet_step (fail))
      refine wpQuiet_nil ?_
      rintro _ ⟨nq, rfl⟩
      gi_wp2
      refine round_tail 6 (by kernel_rfl) (by kernel_rfl) (by kernel_rfl) (fun ⟨_, _, h⟩ => h) ?_
      simp only [List.take_succ_cons, List.take_zero, List.drop_succ_cons, List.drop_zero]
      repeat still_step
      refine wpStill_nil ?_
      go_wp2
      obtain ⟨v, a1, a2, a3, a4⟩ := HI.out.nx
      have hvb : Hid (∀ b, v.ownBlock = some b → nb < b ∧ (v0.ownBlock = some b ∨ w3.heap.size + 2 < b)) := by
        intro b hb
        rcases a4 with a4 | ⟨c, a4, a5⟩
        · rw [a4] at hb; exact ⟨(HV.out b hb).1, .inl hb⟩
        · rw [a4] at hb
          cases hb
          have h9 : nb < w3.heap.size := hnb
          exact ⟨Nat.lt_trans h9 (by omega), .inr a5⟩
      have A4 := Lib.hid a4
      have KO : Hid (∀ k, (k = n ∨ k = nb ∨ v.ownBlock = some k) → ∀ o, W.heap[k]? = some o → o.isCells = true) := by
        rintro k (rfl | rfl | hk) o ho
        · exact isCells_of_cell c1 ho
        · exact isCells_of_cell a1 ho
        · exact a3.isCells hk ho
      have C4 : Hid (Chg (fun k => k = n ∨ k = nb ∨ v.ownBlock = some k) W ((W.drewN (nq + 1)).setCell ⟨n, q.1.toNat * 64 + q.2.toNat, none⟩ (.bool true))) := (Chg.ext ((Ext.refl W).drewN _)).trans (Chg.setCell _ _ (.inl rfl))
      have hnW : n ≤ W.heap.size := by omega
      have L4 : Hid (Below n W ((W.drewN (nq + 1)).setCell ⟨n, q.1.toNat * 64 + q.2.toNat, none⟩ (.bool true))) := (Below.mono ((Ext.refl W).drewN (nq + 1)) hnW).setCell (p := ⟨n, _, none⟩) (Nat.le_refl _) _
      have hqb2 : qb < W.heap.size := cell_lt q1
      have S4 : Hid (SeenAt ((W.drewN (nq + 1)).setCell ⟨n, q.1.toNat * 64 + q.2.toNat, none⟩ (.bool true)) n (q :: (addN S0 N0 pre).1)) := (HI.out.sn.ext ((Ext.refl W).drewN (nq + 1))).set ⟨r1, r2, r3, r4⟩
      have d1 : ((W.drewN (nq + 1)).setCell ⟨n, q.1.toNat * 64 + q.2.toNat, none⟩ (.bool true)).cell? ⟨nb, 0, none⟩ = some v := by rw [World.cell?_setCell_other _ _ _ _ (fun h => by simp only [Addr.mk.injEq] at h; omega)]; exact ((Ext.refl W).drewN (nq + 1)).cell a1
      have d2 : ((W.drewN (nq + 1)).setCell ⟨n, q.1.toNat * 64 + q.2.toNat, none⟩ (.bool true)).frozen? ⟨nb, 0, none⟩ = false := by rw [World.frozen?_setCell]; exact (Below.frozen ((Ext.refl W).drewN (nq + 1)) (p := ⟨nb, 0, none⟩) (cell_lt a1)).trans a2
      have d3 : ((W.drewN (nq + 1)).setCell ⟨n, q.1.toNat * 64 + q.2.toNat, none⟩ (.bool true)).cell? ⟨qb, 0, none⟩ = some (.int .i64 q.1) := by rw [World.cell?_setCell_other _ _ _ _ (fun h => by simp only [Addr.mk.injEq] at h; omega)]; exact ((Ext.refl W).drewN (nq + 1)).cell q1
      have d4 : ((W.drewN (nq + 1)).setCell ⟨n, q.1.toNat * 64 + q.2.toNat, none⟩ (.bool true)).cell? ⟨qb, 1, none⟩ = some (.int .i64 q.2) := by rw [World.cell?_setCell_other _ _ _ _ (fun h => by simp only [Addr.mk.injEq] at h; omega)]; exact ((Ext.refl W).drewN (nq + 1)).cell q2
      have O4 : Hid (Owns ((W.drewN (nq + 1)).setCell ⟨n, q.1.toNat * 64 + q.2.toNat, none⟩ (.bool true)) v (addN S0 N0 pre).2) := a3.kept (X := fun k => nb < k) (n := 0) ((Kept.ext ((Ext.refl W).drewN _) _ _).trans (Kept.setCell _ _ (by simp; omega))) (fun b hb => (hvb.out b hb).1)
      have z4 : W.heap.size = ((W.drewN (nq + 1)).setCell ⟨n, q.1.toNat * 64 + q.2.toNat, none⟩ (.bool true)).heap.size := by simp [World.setCell, World.drewN]
      have N4 : Hid (v.ownBlock ≠ some n) := fun h => by have := (hvb.out n h).1; omega
      clear a1 a2 a3 a4 c1 c2 q1 q2
      generalize ((W.drewN (nq + 1)).setCell ⟨n, q.1.toNat * 64 + q.2.toNat, none⟩ (.bool true)) = W4 at C4 L4 S4 d1 d2 d3 d4 O4 z4 ⊢
      obtain ⟨i0, hi, hz0, hz1, hz2⟩ := info_parts infoPl
      have hlen : (addN S0 N0 pre).2.length ≤ 8192 := by
        have h1 := HW.out.1.len HR.out
        have h2 := HW.out.2
        omega
      have Z4 := Lib.hid z4
      clear z4
      gi_wp2_with (gi_at_builtin; refine wpListIn_append1 _ rfl _ _ 23 rfl 27 i0 (.agg #[.int .i64 0, .int .i64 0]) 2 16 Try.underlying23 hi hz0 hz1 hz2 rfl (by decide) v _ _ rfl (O4.out.ext ((Ext.refl _).alloc _)) ⟨W4.heap.size, 0, none⟩ 1 1 (by decide) [.int .i64 q.1, .int .i64 q.2] rfl rfl (cell_two_new _ _ _ _) ?c1 ?c2 ?c3 ?c4)
      case c1 => intro u hu; simp at hu; rcases hu with rfl | rfl <;> rfl
      case c2 => unfold maxLen; omega
      case c3 => omega
      case c4 =>
        intro v' w5 hown hend
        have O5 := owns_succ hown
        obtain ⟨av, cv, rfl, _, hbk⟩ := O5.reads
        have hnv : v.ownBlock ≠ some nb := fun h => by have := (hvb.out nb h).1; omega
        have E4 : Ext W4 (W4.alloc (.cells #[.int .i64 q.1, .int .i64 q.2] 27)) := (Ext.refl _).alloc _
        have CA : Chg (fun k => v.ownBlock = some k) (W4.alloc (.cells #[.int .i64 q.1, .int .i64 q.2] 27)) w5 := Chg.app hend (fun b hb => hb)
        have KA : Kept (fun k => v.ownBlock ≠ some k) 0 (W4.alloc (.cells #[.int .i64 q.1, .int .i64 q.2] 27)) w5 := CA.kept (fun k hk _ => hk)
        have d5 : w5.cell? ⟨nb, 0, none⟩ = some v := KA.cell (p := ⟨nb, 0, none⟩) hnv (E4.cell d1)
        have d6 : w5.frozen? ⟨nb, 0, none⟩ = false := (KA.frozen (p := ⟨nb, 0, none⟩) hnv (E4.cell d1)).trans ((Below.frozen E4 (p := ⟨nb, 0, none⟩) (cell_lt d1)).trans d2)
        have HKA := Lib.hid KA
        have HCA := Lib.hid CA
        have HE4 := Lib.hid E4
        have HEND := Lib.hid hend
        clear KA CA E4 hend d1 d2
        gi_wp2
        have hsz : W.heap.size = W4.heap.size := Z4.out
        have e : addN S0 N0 (pre ++ [q]) = (q :: (addN S0 N0 pre).1, (addN S0 N0 pre).2 ++ [q]) := by rw [HS.out, if_neg HM.out]
        generalize hv6 : (Value.slice av ((addN S0 N0 pre).2.length + 1) cv) = v6
        rw [show (Value.slice av ((addN S0 N0 pre).2 ++ [q]).length cv) = v6 from by rw [← hv6]; simp] at O5
        have hend6 : AppEnd (W4.alloc (.cells #[.int .i64 q.1, .int .i64 q.2] 27)) w5 v v6 := by
          have := HEND.out
          rwa [show (Value.slice av ((addN S0 N0 pre).2 ++ [q]).length cv) = v6 from by rw [← hv6]; simp] at this
        have C5 : Chg (fun k => k = nb ∨ v.ownBlock = some k) W4 (w5.setCell ⟨nb, 0, none⟩ v6) :=
          ((Chg.ext HE4.out).trans (Chg.app hend6 (fun b hb => .inr hb))).trans (Chg.setCell _ _ (.inl rfl))
        have C6 : Chg (fun k => k = n ∨ k = nb ∨ v.ownBlock = some k) W (w5.setCell ⟨nb, 0, none⟩ v6) :=
          C4.out.trans (((Chg.ext HE4.out).trans (Chg.app hend6 (fun b hb => .inr (.inr hb)))).trans (Chg.setCell _ _ (.inr (.inl rfl))))
        have L6 : Below n W (w5.setCell ⟨nb, 0, none⟩ v6) :=
          ((L4.out.trans (HE4.out.mono (by omega))).trans (hend6.below (by simp; omega) (fun b hb => by have := (hvb.out b hb).1; omega))).setCell (p := ⟨nb, 0, none⟩) (by simp; omega) _
        refine ⟨C6.kept ?_, (C6.others KO.out).from _, ?_⟩
        · rintro k (⟨hk1, hk2⟩ | hk1) hl (hk3 | hk3 | hk3)
          · exact hk2 (.inl hk3)
          · exact hk2 (.inr (.inl hk3))
          · rcases (hvb.out k hk3).2 with h | h
            · exact hk2 (.inr (.inr h))
            · omega
          · omega
          · omega
          · rcases (hvb.out k hk3).2 with h | h
            · have := (HV.out k h).2; omega
            · omega
        · refine ⟨HJ.out _ _ HI.out.j L6, ⟨Nat.le_trans HI.out.kp.1 C6.1, fun k o hx ho hr => ?_⟩, ?_, v6, ?_, ?_, ?_, ?_⟩
          · have hk := (Array.getElem?_eq_some_iff.1 ho).1
            have h1 := HI.out.kp.2 k o hx ho hr
            rw [C6.2 k (by omega) ?_]
            · exact h1
            · rintro (hk3 | hk3 | hk3)
              · exact HXX.out k hx (.inl hk3)
              · exact HXX.out k hx (.inr (.inl hk3))
              · rcases (hvb.out k hk3).2 with h | h
                · exact HXX.out k hx (.inr (.inr h))
                · omega
          · rw [e]
            exact S4.out.kept (C5.kept (X := fun k => k = n) (n := 0) (fun k hk _ hB => by
              rcases hB with hB | hB
              · omega
              · rw [hk] at hB; exact N4.out hB)) rfl
          · exact World.cell?_setCell_same _ _ _ d5
          · rw [World.frozen?_setCell]; exact d6
          · rw [e]
            exact O5.kept (X := fun k => k ≠ nb) (n := 0) (Kept.setCell _ _ (by simp)) (fun b hb h => by
              subst h
              rcases hend6 with ⟨h1, _, _⟩ | ⟨h1, _⟩
              · rw [h1] at hb; exact hnv hb
              · rw [h1] at hb; simp at hb; omega)
          · rcases hend6 with ⟨h1, _, _⟩ | ⟨h1, _⟩
            · rw [h1]; exact A4.out
            · exact .inr ⟨_, h1, by simp; omega⟩
  case done =>
    intro D W h1 h2 h3 h4
    exact hdone D W h1 h2 h3 h4
end Go.Proofs.Ytechakkdcllgoaa
