/- Steps of the proof: Base, Cut1, Cut2, Cut3, Cut7, CutA, Range, Own, FOwn, UOwn, CMem, CIdx, CChk, CChk2, RegE, CRow, FOld, FNat. No conditions. -/
import Derived.Test.YtlhpfhnbeagnaaaGreatDoorRows
import Derived.WalkKit
import Derived.WalkLawsBesides
import Derived.WalkSpells
import Derived.BigQuiet
import Derived.Deep.QuietTactic
import Derived.StillTailTactics
import Derived.Deep.RegionHeld3
import Derived.Deep.LoopGhost
import Derived.Deep.DeepCutAuto
import Derived.Deep.DeepFit
import Derived.Lib.Hide
import Derived.RowKit3
import Derived.Lib.TrailingZeros
import Derived.RangeFuncNested
import Derived.RangeFuncBound
import Derived.RangeFuncCalls
import Derived.RangeFuncLeaves
import Derived.Shelf.Abstract
import Derived.OwnWalkIn
import Derived.TacticsInMore
import Derived.LoopNIn
import Derived.LoopIn
import Derived.Deep.AppendSrc
namespace Go.Proofs.YtlhpfhnbeagnaaaGreatDoor
open Go.RowKit
def Ext (w w' : World) : Prop := Below w.heap.size w w'
theorem Ext.refl (w : World) : Ext w w := Below.refl _ _
theorem Ext.trans {a b c : World} (h : Ext a b) (k : Ext b c) : Ext a c := Below.trans h (Below.mono k h.size)
theorem Ext.trans' {a b c : World} (h : Ext a b) {n : Nat} (k : Below n b c) (hn : a.heap.size ≤ n) : Ext a c := Below.trans h (Below.mono k hn)
theorem cell_lt {w : World} {p : Addr} {v : Value} (h : w.cell? p = some v) : p.block < w.heap.size := by
  by_cases hp : p.block < w.heap.size
  · exact hp
  · exfalso
    have : w.heap[p.block]? = none := by simp; omega
    simp [World.cell?, this] at h
theorem Ext.cell {w w' : World} (h : Ext w w') {p : Addr} {v : Value} (hc : w.cell? p = some v) : w'.cell? p = some v := (Below.cell h (cell_lt hc)).trans hc
theorem Ext.alloc {a w : World} (h : Ext a w) (o : Obj) : Ext a (w.alloc o) := Below.alloc h h.size o
theorem Ext.drew {a w : World} (h : Ext a w) : Ext a w.drew := Below.drew h
theorem Ext.size_lt {w w' : World} (h : Ext w w') {n : Nat} (hn : n < w.heap.size) : n < w'.heap.size := Nat.lt_of_lt_of_le hn h.size
abbrev Sees (W w' : World) : Prop := (∀ b o, b < W.heap.size → w'.cell? ⟨b, o, none⟩ = W.cell? ⟨b, o, none⟩) ∧ (∀ b o, b < W.heap.size → w'.frozen? ⟨b, o, none⟩ = W.frozen? ⟨b, o, none⟩) ∧ Ext W w'
theorem sees {W w' : World} (h : Ext W w') : Sees W w' := ⟨fun b o hb => Below.cell (p := ⟨b, o, none⟩) h hb, fun b o hb => Below.frozen (p := ⟨b, o, none⟩) h hb, h⟩
theorem Sees.refl (w : World) : Sees w w := sees (Ext.refl w)
theorem Sees.alloc {a w : World} (h : Sees a w) (o : Obj) : Sees a (w.alloc o) := sees (h.2.2.alloc o)
theorem Sees.drew {a w : World} (h : Sees a w) : Sees a w.drew := sees h.2.2.drew
theorem Sees.ext {a b c : World} (h : Sees a b) (k : Ext b c) : Sees a c := sees (h.2.2.trans k)
theorem Ext.drewN {a w : World} (h : Ext a w) (n : Nat) : Ext a (w.drewN n) := ⟨h.os, h.tape, h.output, h.size, h.block⟩
theorem Ext.set {w A : World} (h : Ext w A) {b o : Nat} (hb : w.heap.size ≤ b) (v : Value) : Ext w (A.setCell ⟨b, o, none⟩ v) := Below.setCell (p := ⟨b, o, none⟩) h hb v
theorem ret_bool {a b : Bool} (h : a = b) : Ending.returned (.bool a) = .returned (.bool b) := by rw [h]
theorem ret_int {k : IntKind} {a b : Int} (h : a = b) : Ending.returned (.int k a) = .returned (.int k b) := by rw [h]
theorem extA {A B : World} (h : Ext A B := by repeat (first | with_reducible exact Ext.refl _ | with_reducible assumption | with_reducible apply Ext.drewN | with_reducible apply Ext.drew | with_reducible apply Ext.alloc | ((with_reducible refine Ext.set ?_ ?_ _); rotate_left; first | omega | (simp; omega)) | (with_reducible refine Ext.trans ?_ (by with_reducible assumption)))) : Ext A B := h
end Go.Proofs.YtlhpfhnbeagnaaaGreatDoor
namespace Go.Proofs.YtlhpfhnbeagnaaaGreatDoor
structure Gt where
  kind : Int
  need : Int
  args : List Int
structure Tr where
  ev : Int
  gates : List Gt
def argsE (b : Int) : List Int → List Int → Nat
  | _, [] => 0
  | s, n :: l => if n < 0 ∨ b ≤ n then 9 else if n ∈ s then 7 else argsE b (s ++ [n]) l
def needE (g : Gt) : Nat := if g.kind = 2 ∧ (g.need < 1 ∨ (g.args.length : Int) < g.need) then 2 else if g.kind ≠ 2 ∧ g.need ≠ 0 then 3 else 0
def gateE (g : Gt) (b : Int) : Nat :=
  if g.kind < 0 ∨ 3 ≤ g.kind then 1 else if g.args.length = 0 then 13 else if 64 < g.args.length then 5
  else if argsE b [] g.args ≠ 0 then argsE b [] g.args else needE g
def gatesE (b : Int) : List Gt → Nat
  | [] => 0
  | g :: l => if gateE g b ≠ 0 then gateE g b else gatesE (b + 1) l
def treeE (t : Tr) : Nat := if t.ev < 1 ∨ 16 < t.ev then 2 else if t.gates.length = 0 then 13 else if 64 < t.gates.length then 5 else gatesE t.ev t.gates
def cntB (v : List Bool) : List Int → Nat
  | [] => 0
  | a :: l => (if v.getD a.toNat false = true then 1 else 0) + cntB v l
def gateB (g : Gt) (n : Nat) : Bool := if g.kind = 0 then decide (n = g.args.length) else if g.kind = 1 then decide (0 < n) else decide (g.need ≤ (n : Int))
def runB (v : List Bool) : List Gt → List Bool
  | [] => v
  | g :: l => runB (v ++ [gateB g (cntB v g.args)]) l
def bits0 (n s : Nat) : List Bool := (List.range n).map s.testBit
def lastB (v : List Bool) : Bool := v.getD (v.length - 1) false
def topB (t : Tr) (s : Nat) : Bool := lastB (runB (bits0 t.ev.toNat s) t.gates)
structure GtOk (g : Gt) (b : Int) : Prop where
  k0 : 0 ≤ g.kind
  k1 : g.kind < 3
  ne : 0 < g.args.length
  le : g.args.length ≤ 64
  rng : ∀ a ∈ g.args, 0 ≤ a ∧ a < b
  nd : g.args.Nodup
  need : g.kind = 2 → 1 ≤ g.need ∧ g.need ≤ g.args.length
  form : g.kind ≠ 2 → g.need = 0
theorem argsE_zero {b : Int} : ∀ (l s : List Int), s.Nodup → argsE b s l = 0 → (∀ a ∈ l, 0 ≤ a ∧ a < b) ∧ (s ++ l).Nodup := by
  intro l
  induction l with
  | nil => intro s h _; exact ⟨(fun a h => nomatch h), by rw [List.append_nil]; exact h⟩
  | cons n l ih =>
    intro s h he
    unfold argsE at he
    split at he
    · cases he
    · rename_i h1
      split at he
      · cases he
      · rename_i h2
        have h3 : (s ++ [n]).Nodup := by
          rw [List.nodup_append]
          refine ⟨h, by simp, fun a ha c hc e => ?_⟩
          rw [List.mem_singleton] at hc
          exact h2 (by rw [← hc, ← e]; exact ha)
        obtain ⟨g1, g2⟩ := ih _ h3 he
        refine ⟨fun a ha => ?_, by rw [List.append_assoc] at g2; exact g2⟩
        rcases List.mem_cons.1 ha with rfl | ha
        · omega
        · exact g1 a ha
theorem argsE_none {b : Int} : ∀ (l s : List Int), (s ++ l).Nodup → (∀ a ∈ l, 0 ≤ a ∧ a < b) → argsE b s l = 0 := by
  intro l
  induction l with
  | nil => intro s _ _; rfl
  | cons n l ih =>
    intro s h hr
    unfold argsE
    have h1 := hr n (by simp)
    rw [if_neg (by omega), if_neg]
    · exact ih _ (by rw [List.append_assoc]; exact h) (fun a ha => hr a (List.mem_cons_of_mem _ ha))
    · intro hm
      rw [List.nodup_append] at h
      exact h.2.2 n hm n (by simp) rfl
theorem gateE_ok {g : Gt} {b : Int} (h : gateE g b = 0) : GtOk g b := by
  unfold gateE needE at h
  split at h
  · cases h
  · rename_i h1
    split at h
    · cases h
    · rename_i h2
      split at h
      · cases h
      · rename_i h3
        split at h
        · rename_i h4; exact absurd h h4
        · rename_i h4
          have h4' : argsE b [] g.args = 0 := by omega
          obtain ⟨g1, g2⟩ := argsE_zero _ _ (by simp) h4'
          split at h
          · cases h
          · rename_i h5
            split at h
            · cases h
            · rename_i h6
              exact ⟨by omega, by omega, by omega, by omega, g1, by simpa using g2, fun hk => by omega, fun hk => by omega⟩
theorem GtOk.err {g : Gt} {b : Int} (h : GtOk g b) : gateE g b = 0 := by
  have h4 : argsE b [] g.args = 0 := argsE_none _ _ (by simpa using h.nd) h.rng
  have := h.k0
  have := h.k1
  have := h.ne
  have := h.le
  have := h.need
  have := h.form
  unfold gateE needE
  rw [if_neg (by omega), if_neg (by omega), if_neg (by omega), if_neg (by omega), if_neg (by omega), if_neg (by omega)]
def GtsOk (b : Int) : List Gt → Prop
  | [] => True
  | g :: l => GtOk g b ∧ GtsOk (b + 1) l
theorem gatesE_ok : ∀ (l : List Gt) (b : Int), gatesE b l = 0 → GtsOk b l := by
  intro l
  induction l with
  | nil => intro b _; trivial
  | cons g l ih =>
    intro b h
    unfold gatesE at h
    split at h
    · rename_i h1; exact absurd h h1
    · rename_i h1; exact ⟨gateE_ok (by omega), ih _ h⟩
theorem GtsOk.err : ∀ {l : List Gt} {b : Int}, GtsOk b l → gatesE b l = 0 := by
  intro l
  induction l with
  | nil => intro b _; rfl
  | cons g l ih =>
    intro b h
    unfold gatesE
    rw [if_neg (not_not_intro h.1.err)]
    exact ih h.2
structure TrOk (t : Tr) : Prop where
  e1 : 1 ≤ t.ev
  e2 : t.ev ≤ 16
  g1 : 0 < t.gates.length
  g2 : t.gates.length ≤ 64
  ok : GtsOk t.ev t.gates
theorem treeE_ok {t : Tr} (h : treeE t = 0) : TrOk t := by
  unfold treeE at h
  split at h
  · cases h
  · rename_i h1
    split at h
    · cases h
    · rename_i h2
      split at h
      · cases h
      · rename_i h3
        exact ⟨by omega, by omega, by omega, by omega, gatesE_ok _ _ h⟩
theorem TrOk.err {t : Tr} (h : TrOk t) : treeE t = 0 := by
  have := h.e1
  have := h.e2
  have := h.g1
  have := h.g2
  unfold treeE
  rw [if_neg (by omega), if_neg (by omega), if_neg (by omega)]
  exact h.ok.err
theorem run_len : ∀ (l : List Gt) (v : List Bool), (runB v l).length = v.length + l.length := by
  intro l
  induction l with
  | nil => intro v; simp [runB]
  | cons g l ih => intro v; unfold runB; rw [ih]; simp; omega
theorem bits0_len (n s : Nat) : (bits0 n s).length = n := by simp [bits0]
theorem bits0_get {n s i : Nat} (h : i < n) : (bits0 n s).getD i false = s.testBit i := by
  unfold bits0
  rw [List.getD_eq_getElem?_getD, List.getElem?_map, List.getElem?_range h]
  rfl
theorem getD_snoc {v : List Bool} {b : Bool} {i : Nat} : (v ++ [b]).getD i false = if i < v.length then v.getD i false else if i = v.length then b else false := by
  rw [List.getD_eq_getElem?_getD, List.getD_eq_getElem?_getD]
  split
  · rename_i h; rw [List.getElem?_append_left h]
  · rename_i h
    rw [List.getElem?_append_right (by omega)]
    split
    · rename_i h2; subst h2; simp
    · rename_i h2
      obtain ⟨k, hk⟩ : ∃ k, i - v.length = k + 1 := ⟨i - v.length - 1, by omega⟩
      rw [hk]; rfl
theorem cnt_le (v : List Bool) : ∀ l : List Int, cntB v l ≤ l.length := by
  intro l
  induction l with
  | nil => exact Nat.le_refl _
  | cons a l ih => unfold cntB; rw [List.length_cons]; split <;> omega
def LeB (v w : List Bool) : Prop := v.length = w.length ∧ ∀ i, v.getD i false = true → w.getD i false = true
theorem LeB.snoc {v w : List Bool} (h : LeB v w) {a b : Bool} (hab : a = true → b = true) : LeB (v ++ [a]) (w ++ [b]) := by
  refine ⟨by simp [h.1], fun i hi => ?_⟩
  rw [getD_snoc] at hi ⊢
  rw [← h.1]
  split at hi
  · rename_i h1; rw [if_pos h1]; exact h.2 _ hi
  · rename_i h1
    rw [if_neg h1]
    split at hi
    · rename_i h2; rw [if_pos h2]; exact hab hi
    · cases hi
def SubN (s u : Nat) : Prop := ∀ i, s.testBit i = true → u.testBit i = true
theorem LeB.last {v w : List Bool} (h : LeB v w) (hv : lastB v = true) : lastB w = true := by
  unfold lastB at hv ⊢
  rw [← h.1]
  exact h.2 _ hv
theorem cnt_all {v : List Bool} {x : Bool} (h : ∀ i, i < v.length → v.getD i false = x) : ∀ l : List Int, (∀ a ∈ l, 0 ≤ a ∧ a < (v.length : Int)) → cntB v l = if x = true then l.length else 0 := by
  intro l
  induction l with
  | nil => intro _; unfold cntB; split <;> rfl
  | cons a l ih =>
    intro hr
    unfold cntB
    have h1 := hr a (by simp)
    rw [h a.toNat (by omega), ih (fun c hc => hr c (List.mem_cons_of_mem _ hc)), List.length_cons]
    split <;> omega
theorem gate_zero {g : Gt} {b : Int} (h : GtOk g b) : gateB g 0 = false := by
  have h1 := h.k0
  have h2 := h.k1
  have h3 := h.ne
  have h4 := h.need
  unfold gateB
  split
  · rw [decide_eq_false_iff_not]; omega
  · split
    · rfl
    · rw [decide_eq_false_iff_not]; omega
theorem gate_full {g : Gt} {b : Int} (h : GtOk g b) : gateB g g.args.length = true := by
  have h1 := h.k0
  have h2 := h.k1
  have h3 := h.ne
  have h4 := h.need
  unfold gateB
  split
  · rw [decide_eq_true_eq]
  · split
    · rw [decide_eq_true_eq]; omega
    · rw [decide_eq_true_eq]; omega
theorem gate_all {g : Gt} {b : Int} (h : GtOk g b) (x : Bool) : gateB g (if x = true then g.args.length else 0) = x := by
  cases x
  · exact gate_zero h
  · exact gate_full h
theorem run_all {x : Bool} : ∀ (l : List Gt) {v : List Bool}, GtsOk v.length l → (∀ i, i < v.length → v.getD i false = x) → ∀ i, i < (runB v l).length → (runB v l).getD i false = x := by
  intro l
  induction l with
  | nil => intro v _ h; exact h
  | cons g l ih =>
    intro v hok h
    unfold runB
    refine ih ?_ ?_
    · have := hok.2
      rw [List.length_append, List.length_singleton]
      exact_mod_cast this
    · intro i hi
      rw [List.length_append, List.length_singleton] at hi
      rw [getD_snoc]
      split
      · rename_i h1; exact h i h1
      · rw [if_pos (by omega), cnt_all h _ hok.1.rng]
        exact gate_all hok.1 x
theorem top_all {t : Tr} (h : TrOk t) {x : Bool} {s : Nat} (hs : ∀ i, i < t.ev.toNat → s.testBit i = x) : topB t s = x := by
  have h1 := h.e1
  have h2 := h.g1
  unfold topB lastB
  refine run_all _ ?_ (fun i hi => ?_) _ ?_
  · rw [bits0_len, Int.toNat_of_nonneg (by omega)]; exact h.ok
  · rw [bits0_len] at hi; rw [bits0_get hi]; exact hs i hi
  · rw [run_len]; omega
theorem top_full {t : Tr} (h : TrOk t) : topB t (2 ^ t.ev.toNat - 1) = true := top_all h (fun i hi => by rw [Nat.testBit_two_pow_sub_one]; exact decide_eq_true hi)
end Go.Proofs.YtlhpfhnbeagnaaaGreatDoor
namespace Go.Proofs.YtlhpfhnbeagnaaaGreatDoor
theorem clear_bit : ∀ (i s : Nat), s.testBit i = true → ∀ j, (s - 2 ^ i).testBit j = (s.testBit j && decide (j ≠ i)) := by
  intro i
  induction i with
  | zero =>
    intro s h j
    rw [Nat.testBit_zero, decide_eq_true_eq] at h
    rw [Nat.pow_zero]
    cases j with
    | zero => rw [Nat.testBit_zero, Nat.testBit_zero, decide_eq_false (by omega)]; simp
    | succ j => rw [Nat.testBit_add_one, Nat.testBit_add_one, show (s - 1) / 2 = s / 2 by omega]; simp
  | succ i ih =>
    intro s h j
    have hge := Nat.ge_two_pow_of_testBit h
    rw [Nat.testBit_add_one] at h
    have h2 := ih _ h
    rw [Nat.pow_succ] at hge ⊢
    cases j with
    | zero => rw [Nat.testBit_zero, Nat.testBit_zero, show (s - 2 ^ i * 2) % 2 = s % 2 by omega]; simp
    | succ j =>
      rw [Nat.testBit_add_one, Nat.testBit_add_one, show (s - 2 ^ i * 2) / 2 = s / 2 - 2 ^ i by omega, h2]
      congr 1
      simp
theorem clear_sub {i s : Nat} (h : s.testBit i = true) : SubN (s - 2 ^ i) s := fun j hj => by
  rw [clear_bit i s h, Bool.and_eq_true] at hj; exact hj.1
theorem clear_lt {i s : Nat} (h : s.testBit i = true) : s - 2 ^ i < s := by
  have := Nat.ge_two_pow_of_testBit h
  have := Nat.two_pow_pos i
  omega
def bitsI (n s : Nat) : List Int := ((List.range n).filter s.testBit).map (fun i => ((i : Nat) : Int))
def setL : List Int → Nat
  | [] => 0
  | a :: l => 2 ^ a.toNat + setL l
theorem bitsI_succ (n s : Nat) : bitsI (n + 1) s = bitsI n s ++ if s.testBit n = true then [(n : Int)] else [] := by
  unfold bitsI
  rw [List.range_succ, List.filter_append, List.map_append]
  congr 1
  by_cases h : s.testBit n = true
  · rw [if_pos h]; simp [h]
  · rw [if_neg h]; simp [h]
theorem setL_append (a b : List Int) : setL (a ++ b) = setL a + setL b := by
  induction a with
  | nil => simp [setL]
  | cons x a ih =>
    show 2 ^ x.toNat + setL (a ++ b) = 2 ^ x.toNat + setL a + setL b
    rw [ih]; omega
theorem mem_bits {n s : Nat} {a : Int} : a ∈ bitsI n s ↔ ∃ i : Nat, i < n ∧ s.testBit i = true ∧ a = (i : Int) := by
  unfold bitsI
  simp only [List.mem_map, List.mem_filter, List.mem_range]
  constructor
  · rintro ⟨i, ⟨h1, h2⟩, h3⟩; exact ⟨i, h1, h2, h3.symm⟩
  · rintro ⟨i, h1, h2, h3⟩; exact ⟨i, ⟨h1, h2⟩, h3.symm⟩
theorem bits_len (n s : Nat) : (bitsI n s).length ≤ n := by
  unfold bitsI
  rw [List.length_map]
  exact Nat.le_trans (List.length_filter_le _ _) (by rw [List.length_range]; exact Nat.le_refl _)
theorem bits_asc (n s : Nat) : (bitsI n s).Pairwise (· < ·) := by
  unfold bitsI
  rw [List.pairwise_map]
  exact (List.Pairwise.filter _ List.pairwise_lt_range).imp (fun h => by omega)
theorem bits_more {n m s : Nat} (h : s < 2 ^ n) (hm : n ≤ m) : bitsI m s = bitsI n s := by
  obtain ⟨k, rfl⟩ : ∃ k, m = n + k := ⟨m - n, by omega⟩
  clear hm
  induction k with
  | zero => rfl
  | succ k ih =>
    rw [← Nat.add_assoc, bitsI_succ, ih, Nat.testBit_lt_two_pow (Nat.lt_of_lt_of_le h (Nat.pow_le_pow_right (by decide) (by omega)))]
    simp
def evE (ev : Int) : Int → List Int → Nat
  | _, [] => 0
  | p, n :: l => if n < 0 ∨ ev ≤ n then 6 else if n ≤ p then 9 else evE ev n l
def listE (ev : Int) (l : List Int) : Nat := if 16 < l.length then 5 else evE ev (-1) l
theorem evE_ok {ev : Int} : ∀ (l : List Int) (p : Int), evE ev p l = 0 → l.Pairwise (· < ·) ∧ ∀ a ∈ l, p < a ∧ 0 ≤ a ∧ a < ev := by
  intro l
  induction l with
  | nil => intro p _; exact ⟨List.Pairwise.nil, (fun a h => nomatch h)⟩
  | cons n l ih =>
    intro p h
    unfold evE at h
    split at h
    · cases h
    · rename_i h1
      split at h
      · cases h
      · rename_i h2
        obtain ⟨g1, g2⟩ := ih _ h
        refine ⟨List.pairwise_cons.2 ⟨fun a ha => (g2 a ha).1, g1⟩, fun a ha => ?_⟩
        rcases List.mem_cons.1 ha with rfl | ha
        · omega
        · have := g2 a ha; omega
theorem setL_le : ∀ (l : List Int) (m n : Nat), m ≤ n → l.Pairwise (· < ·) → (∀ a ∈ l, (m : Int) ≤ a ∧ a < (n : Int)) → setL l + 2 ^ m ≤ 2 ^ n := by
  intro l
  induction l with
  | nil =>
    intro m n h _ _
    unfold setL
    rw [Nat.zero_add]
    exact Nat.pow_le_pow_right (by decide) h
  | cons a l ih =>
    intro m n _ h1 h2
    rw [List.pairwise_cons] at h1
    have ha := h2 a (by simp)
    have h3 := ih (a.toNat + 1) n (by omega) h1.2 (fun b hb => ⟨by have := h1.1 b hb; omega, (h2 b (List.mem_cons_of_mem _ hb)).2⟩)
    have h4 : 2 ^ m ≤ 2 ^ a.toNat := Nat.pow_le_pow_right (by decide) (by omega)
    unfold setL
    rw [Nat.pow_succ] at h3
    omega
theorem setL_lt {l : List Int} {n : Nat} (h1 : l.Pairwise (· < ·)) (h2 : ∀ a ∈ l, 0 ≤ a ∧ a < (n : Int)) : setL l < 2 ^ n := by
  have := setL_le l 0 n (Nat.zero_le _) h1 (fun a ha => by have := h2 a ha; omega)
  omega
def minB (t : Tr) (s : Nat) : Bool := topB t s && (List.range t.ev.toNat).all fun i => !(s.testBit i && topB t (s - 2 ^ i))
theorem min_iff {t : Tr} {s : Nat} : minB t s = true ↔ topB t s = true ∧ ∀ i, i < t.ev.toNat → s.testBit i = true → topB t (s - 2 ^ i) = false := by
  unfold minB
  rw [Bool.and_eq_true, List.all_eq_true]
  constructor
  · rintro ⟨h1, h2⟩
    refine ⟨h1, fun i hi hb => ?_⟩
    have := h2 i (List.mem_range.2 hi)
    rw [hb] at this
    simpa using this
  · rintro ⟨h1, h2⟩
    refine ⟨h1, fun i hi => ?_⟩
    rw [List.mem_range] at hi
    cases hb : s.testBit i
    · rfl
    · rw [h2 i hi hb]; rfl
theorem min_below {t : Tr} : ∀ (n s : Nat), s ≤ n → topB t s = true → ∃ u, SubN u s ∧ u ≤ s ∧ minB t u = true := by
  intro n
  induction n with
  | zero =>
    intro s h ht
    obtain rfl : s = 0 := by omega
    exact ⟨0, fun i h => h, Nat.le_refl _, min_iff.2 ⟨ht, fun i _ hb => by rw [Nat.zero_testBit] at hb; cases hb⟩⟩
  | succ n ih =>
    intro s h ht
    by_cases hm : minB t s = true
    · exact ⟨s, fun i h => h, Nat.le_refl _, hm⟩
    · have : ∃ i, s.testBit i = true ∧ topB t (s - 2 ^ i) = true := by
        refine Classical.byContradiction fun hno => hm (min_iff.2 ⟨ht, fun i _ hb => ?_⟩)
        cases h5 : topB t (s - 2 ^ i)
        · rfl
        · exact absurd ⟨i, hb, h5⟩ hno
      obtain ⟨i, hb, h5⟩ := this
      have hl := clear_lt hb
      obtain ⟨u, h6, h7, h8⟩ := ih (s - 2 ^ i) (by omega) h5
      exact ⟨u, fun j hj => clear_sub hb j (h6 j hj), by omega, h8⟩
def cardN (n s : Nat) : Nat := (bitsI n s).length
theorem card_le (n s : Nat) : cardN n s ≤ n := bits_len n s
theorem card_mono : ∀ (n : Nat) {s u : Nat}, SubN s u → cardN n s ≤ cardN n u := by
  intro n
  induction n with
  | zero => intro s u _; exact Nat.le_refl _
  | succ n ih =>
    intro s u h
    have := ih h
    unfold cardN at this ⊢
    rw [bitsI_succ, bitsI_succ, List.length_append, List.length_append]
    by_cases hb : s.testBit n = true
    · rw [if_pos hb, if_pos (h n hb)]; omega
    · rw [if_neg hb, List.length_nil]; omega
def lexB : List Int → List Int → Bool
  | a :: l, b :: m => if a = b then lexB l m else decide (a < b)
  | _, _ => false
def befL (a b : List Int) : Bool := if a.length = b.length then lexB a b else decide (a.length < b.length)
theorem lexB_irr : ∀ a, lexB a a = false := by
  intro a
  induction a with
  | nil => rfl
  | cons x a ih => unfold lexB; rw [if_pos rfl]; exact ih
theorem lexB_trans : ∀ {a b c : List Int}, lexB a b = true → lexB b c = true → lexB a c = true := by
  intro a
  induction a with
  | nil => intro b c h _; unfold lexB at h; cases h
  | cons x a ih =>
    intro b c h1 h2
    cases b with
    | nil => unfold lexB at h1; cases h1
    | cons y b =>
      cases c with
      | nil => unfold lexB at h2; cases h2
      | cons z c =>
        unfold lexB at h1 h2 ⊢
        by_cases e1 : x = y
        · subst e1
          rw [if_pos rfl] at h1
          by_cases e2 : x = z
          · subst e2
            rw [if_pos rfl] at h2
            rw [if_pos rfl]
            exact ih h1 h2
          · rw [if_neg e2] at h2 ⊢; exact h2
        · rw [if_neg e1, decide_eq_true_eq] at h1
          by_cases e2 : y = z
          · subst e2
            rw [if_neg e1, decide_eq_true_eq]; exact h1
          · rw [if_neg e2, decide_eq_true_eq] at h2
            rw [if_neg (by omega), decide_eq_true_eq]; omega
theorem lexB_tri : ∀ {a b : List Int}, a.length = b.length → lexB a b = false → lexB b a = false → a = b := by
  intro a
  induction a with
  | nil => intro b h _ _; exact (List.eq_nil_of_length_eq_zero h.symm).symm
  | cons x a ih =>
    intro b h h1 h2
    cases b with
    | nil => cases h
    | cons y b =>
      unfold lexB at h1 h2
      by_cases e : x = y
      · subst e
        rw [if_pos rfl] at h1 h2
        rw [ih (by simpa using h) h1 h2]
      · rw [if_neg e, decide_eq_false_iff_not] at h1
        rw [if_neg (Ne.symm e), decide_eq_false_iff_not] at h2
        omega
theorem befL_irr (a : List Int) : befL a a = false := by unfold befL; rw [if_pos rfl]; exact lexB_irr a
theorem befL_trans {a b c : List Int} (h1 : befL a b = true) (h2 : befL b c = true) : befL a c = true := by
  unfold befL at *
  split at h1
  · rename_i e1
    split at h2
    · rename_i e2
      rw [if_pos (by omega)]
      exact lexB_trans h1 h2
    · rename_i e2
      rw [decide_eq_true_eq] at h2
      rw [if_neg (by omega), decide_eq_true_eq]
      omega
  · rename_i e1
    rw [decide_eq_true_eq] at h1
    split at h2
    · rw [if_neg (by omega), decide_eq_true_eq]
      omega
    · rw [decide_eq_true_eq] at h2
      rw [if_neg (by omega), decide_eq_true_eq]
      omega
theorem befL_tri {a b : List Int} (h1 : befL a b = false) (h2 : befL b a = false) : a = b := by
  unfold befL at *
  split at h1
  · rename_i e
    rw [if_pos e.symm] at h2
    exact lexB_tri e h1 h2
  · rename_i e
    rw [if_neg (Ne.symm e)] at h2
    rw [decide_eq_false_iff_not] at h1 h2
    omega
theorem befL_asymm {a b : List Int} (h1 : befL a b = true) : befL b a = false := by
  cases h : befL b a
  · rfl
  · have := befL_trans h1 h
    rw [befL_irr] at this
    cases this
def insL (l : List Int) : List (List Int) → List (List Int)
  | [] => [l]
  | a :: r => if befL a l = true then a :: insL l r else l :: a :: r
def allFrom (t : Tr) (acc : List (List Int)) : List Nat → List (List Int)
  | [] => acc
  | s :: l => allFrom t (if minB t s = true then insL (bitsI 16 s) acc else acc) l
def allL (t : Tr) : List (List Int) := allFrom t [] (List.range (2 ^ t.ev.toNat))
def SortL (l : List (List Int)) : Prop := l.Pairwise fun a b => befL b a = false
theorem insL_perm (l : List Int) : ∀ r, (insL l r).Perm (l :: r) := by
  intro r
  induction r with
  | nil => exact List.Perm.refl _
  | cons a r ih =>
    unfold insL
    split
    · exact (ih.cons a).trans (List.Perm.swap _ _ _)
    · exact List.Perm.refl _
theorem insL_sort (l : List Int) : ∀ r, SortL r → SortL (insL l r) := by
  intro r
  induction r with
  | nil => intro _; exact List.pairwise_singleton _ _
  | cons a r ih =>
    intro h
    have h' := h
    unfold SortL at h'
    rw [List.pairwise_cons] at h'
    unfold insL
    split
    · rename_i hb
      unfold SortL
      rw [List.pairwise_cons]
      refine ⟨fun c hc => ?_, ih h'.2⟩
      rcases List.mem_cons.1 ((insL_perm l r).mem_iff.1 hc) with rfl | hc
      · exact befL_asymm hb
      · exact h'.1 c hc
    · rename_i hb
      have hb' : befL a l = false := by cases h9 : befL a l; rfl; exact absurd h9 hb
      unfold SortL
      rw [List.pairwise_cons]
      refine ⟨fun c hc => ?_, h⟩
      rcases List.mem_cons.1 hc with rfl | hc2
      · exact hb'
      · have h5 := h'.1 c hc2
        cases h9 : befL c l
        · rfl
        · cases h8 : befL l a
          · have h6 := befL_tri h8 hb'
            rw [h6, h5] at h9; cases h9
          · have h6 := befL_trans h9 h8
            rw [h5] at h6; cases h6
theorem allFrom_sort (t : Tr) : ∀ (l : List Nat) (acc), SortL acc → SortL (allFrom t acc l) := by
  intro l
  induction l with
  | nil => intro acc h; exact h
  | cons s l ih =>
    intro acc h
    unfold allFrom
    refine ih _ ?_
    split
    · exact insL_sort _ _ h
    · exact h
def rawL (t : Tr) (l : List Nat) : List (List Int) := (l.filter (minB t)).map (bitsI 16)
theorem allFrom_perm (t : Tr) : ∀ (l : List Nat) (acc), (allFrom t acc l).Perm (acc ++ rawL t l) := by
  intro l
  induction l with
  | nil => intro acc; simp [allFrom, rawL]
  | cons s l ih =>
    intro acc
    unfold allFrom
    refine (ih _).trans ?_
    by_cases h : minB t s = true
    · rw [if_pos h]
      have : rawL t (s :: l) = bitsI 16 s :: rawL t l := by unfold rawL; rw [List.filter_cons_of_pos h]; rfl
      rw [this]
      refine ((insL_perm _ _).append_right _).trans ?_
      rw [List.cons_append]
      exact List.perm_middle.symm
    · rw [if_neg h]
      have : rawL t (s :: l) = rawL t l := by unfold rawL; rw [List.filter_cons_of_neg h]
      rw [this]
theorem all_unique {t : Tr} {l : List (List Int)} (hp : l.Perm (rawL t (List.range (2 ^ t.ev.toNat)))) (hs : SortL l) : l = allL t := by
  refine List.Perm.eq_of_pairwise (le := fun a b => befL b a = false) ?_ hs (allFrom_sort t _ [] List.Pairwise.nil) (hp.trans (allFrom_perm t _ []).symm)
  intro a b _ _ h1 h2
  exact befL_tri h2 h1
theorem mem_all {t : Tr} {l : List Int} : l ∈ allL t ↔ ∃ s, s < 2 ^ t.ev.toNat ∧ minB t s = true ∧ l = bitsI 16 s := by
  unfold allL
  rw [(allFrom_perm t _ []).mem_iff, List.nil_append]
  unfold rawL
  simp only [List.mem_map, List.mem_filter, List.mem_range]
  constructor
  · rintro ⟨s, ⟨h1, h2⟩, h3⟩; exact ⟨s, h1, h2, h3.symm⟩
  · rintro ⟨s, h1, h2, h3⟩; exact ⟨s, ⟨h1, h2⟩, h3.symm⟩
end Go.Proofs.YtlhpfhnbeagnaaaGreatDoor
namespace Go.Proofs.YtlhpfhnbeagnaaaGreatDoor
def leastFrom (t : Tr) (best : Nat) : List Nat → Nat
  | [] => best
  | s :: l => leastFrom t (if cardN 16 s < best ∧ topB t s = true then cardN 16 s else best) l
def leastN (t : Tr) : Nat := leastFrom t t.ev.toNat (List.range (2 ^ t.ev.toNat))
theorem least_le (t : Tr) : ∀ (l : List Nat) (b : Nat), leastFrom t b l ≤ b ∧ (∀ s ∈ l, topB t s = true → leastFrom t b l ≤ cardN 16 s) ∧ (leastFrom t b l = b ∨ ∃ s ∈ l, topB t s = true ∧ leastFrom t b l = cardN 16 s) := by
  intro l
  induction l with
  | nil => intro b; exact ⟨Nat.le_refl _, fun s h => (by cases h), Or.inl rfl⟩
  | cons s l ih =>
    intro b
    unfold leastFrom
    by_cases h : cardN 16 s < b ∧ topB t s = true
    · rw [if_pos h]
      obtain ⟨g1, g2, g3⟩ := ih (cardN 16 s)
      refine ⟨by omega, fun u hu ht => ?_, Or.inr ?_⟩
      · rcases List.mem_cons.1 hu with rfl | hu
        · exact g1
        · exact g2 u hu ht
      · rcases g3 with g3 | ⟨u, hu, g3⟩
        · exact ⟨s, by simp, h.2, g3⟩
        · exact ⟨u, List.mem_cons_of_mem _ hu, g3⟩
    · rw [if_neg h]
      obtain ⟨g1, g2, g3⟩ := ih b
      refine ⟨g1, fun u hu ht => ?_, ?_⟩
      · rcases List.mem_cons.1 hu with rfl | hu
        · have : ¬ cardN 16 u < b := fun h9 => h ⟨h9, ht⟩
          omega
        · exact g2 u hu ht
      · rcases g3 with g3 | ⟨u, hu, g3⟩
        · exact Or.inl g3
        · exact Or.inr ⟨u, List.mem_cons_of_mem _ hu, g3⟩
theorem TrOk.nat {t : Tr} (h : TrOk t) : ∃ n : Nat, t.ev = n ∧ t.ev.toNat = n ∧ 1 ≤ n ∧ n ≤ 16 := by
  have h1 := h.e1
  have h2 := h.e2
  exact ⟨t.ev.toNat, by omega, rfl, by omega, by omega⟩
theorem cut_below {t : Tr} (_ : TrOk t) {s : Nat} (hs : s < 2 ^ t.ev.toNat) (ht : topB t s = true) : ∃ u, u < 2 ^ t.ev.toNat ∧ SubN u s ∧ minB t u = true ∧ bitsI 16 u ∈ allL t := by
  obtain ⟨u, h1, h2, h3⟩ := min_below s s (Nat.le_refl _) ht
  have h4 : u < 2 ^ t.ev.toNat := Nat.lt_of_le_of_lt h2 hs
  exact ⟨u, h4, h1, h3, mem_all.2 ⟨u, h4, h3, rfl⟩⟩
theorem full_lt (n : Nat) : 2 ^ n - 1 < 2 ^ n := by have := Nat.two_pow_pos n; omega
theorem card_full (n : Nat) (h : n ≤ 16) : cardN 16 (2 ^ n - 1) = n := by
  unfold cardN
  rw [bits_more (full_lt n) h]
  unfold bitsI
  rw [List.length_map, List.filter_eq_self.2, List.length_range]
  intro i hi
  rw [Nat.testBit_two_pow_sub_one]
  exact decide_eq_true (List.mem_range.1 hi)
theorem all_least {t : Tr} (h : TrOk t) : ∃ c r, allL t = c :: r ∧ c.length = leastN t := by
  obtain ⟨n, _, hn, _, h16⟩ := h.nat
  have hf := top_full h
  obtain ⟨u, hu, _, _, hm⟩ := cut_below h (full_lt _) hf
  obtain ⟨g1, g2, g3⟩ := least_le t (List.range (2 ^ t.ev.toNat)) t.ev.toNat
  have hex : ∃ s, s < 2 ^ t.ev.toNat ∧ topB t s = true ∧ leastN t = cardN 16 s := by
    rcases g3 with g3 | ⟨s, h1, h2, h3⟩
    · exact ⟨_, full_lt _, hf, by rw [card_full _ (by omega)]; exact g3⟩
    · exact ⟨s, List.mem_range.1 h1, h2, h3⟩
  cases hl : allL t with
  | nil => rw [hl] at hm; cases hm
  | cons c r =>
    refine ⟨c, r, rfl, ?_⟩
    have hc : c ∈ allL t := by rw [hl]; simp
    obtain ⟨v, v1, v2, rfl⟩ := mem_all.1 hc
    have h5 := g2 v (List.mem_range.2 v1) (min_iff.1 v2).1
    obtain ⟨s, s1, s2, s3⟩ := hex
    obtain ⟨x, x1, x2, x3, x4⟩ := cut_below h s1 s2
    have h6 := card_mono 16 x2
    have hs := allFrom_sort t (List.range (2 ^ t.ev.toNat)) [] List.Pairwise.nil
    have h7 : cardN 16 v ≤ cardN 16 x := by
      rw [show allFrom t [] (List.range (2 ^ t.ev.toNat)) = allL t from rfl, hl] at hs
      rw [hl] at x4
      rcases List.mem_cons.1 x4 with e | hx
      · unfold cardN; rw [e]; exact Nat.le_refl _
      · unfold SortL at hs
        rw [List.pairwise_cons] at hs
        have h8 := hs.1 _ hx
        unfold befL at h8
        unfold cardN
        split at h8
        · omega
        · rw [decide_eq_false_iff_not] at h8; omega
    show cardN 16 v = _
    unfold leastN at s3 ⊢
    omega
end Go.Proofs.YtlhpfhnbeagnaaaGreatDoor
namespace Go.Proofs.YtlhpfhnbeagnaaaGreatDoor
theorem and_pred : ∀ (k m : Nat), (2 ^ k * (2 * m + 1)) &&& (2 ^ k * (2 * m + 1) - 1) = 2 ^ k * (2 * m + 1) - 2 ^ k := by
  intro k
  induction k with
  | zero =>
    intro m
    rw [Nat.pow_zero, Nat.one_mul, Nat.add_sub_cancel]
    refine Nat.eq_of_testBit_eq fun i => ?_
    rw [Nat.testBit_and]
    cases i with
    | zero => rw [Nat.testBit_zero, Nat.testBit_zero, decide_eq_false (show ¬ (2 * m) % 2 = 1 by omega)]; simp
    | succ i => rw [Nat.testBit_add_one, Nat.testBit_add_one, show (2 * m + 1) / 2 = m by omega, show 2 * m / 2 = m by omega, Bool.and_self]
  | succ k ih =>
    intro m
    have hx : 2 ^ (k + 1) * (2 * m + 1) = 2 * (2 ^ k * (2 * m + 1)) := by rw [Nat.pow_succ, Nat.mul_comm (2 ^ k) 2, Nat.mul_assoc]
    have hp : 0 < 2 ^ k * (2 * m + 1) := Nat.mul_pos (Nat.two_pow_pos k) (by omega)
    have hi := ih m
    rw [hx, Nat.pow_succ]
    generalize 2 ^ k * (2 * m + 1) = y at hp hi ⊢
    refine Nat.eq_of_testBit_eq fun i => ?_
    rw [Nat.testBit_and]
    cases i with
    | zero => rw [Nat.testBit_zero, Nat.testBit_zero, Nat.testBit_zero, decide_eq_false (show ¬ (2 * y) % 2 = 1 by omega), decide_eq_false (show ¬ (2 * y - 2 ^ k * 2) % 2 = 1 by omega)]; rfl
    | succ i => rw [Nat.testBit_add_one, Nat.testBit_add_one, Nat.testBit_add_one, show 2 * y / 2 = y by omega, show (2 * y - 1) / 2 = y - 1 by omega, show (2 * y - 2 ^ k * 2) / 2 = y - 2 ^ k by omega, ← hi, Nat.testBit_and]
theorem low_bits : ∀ (k m j : Nat), j ≤ k → (2 ^ k * (2 * m + 1)).testBit j = decide (j = k) := by
  intro k
  induction k with
  | zero =>
    intro m j h
    obtain rfl : j = 0 := by omega
    rw [Nat.testBit_zero, Nat.pow_zero, Nat.one_mul]
    simp
  | succ k ih =>
    intro m j h
    have hx : 2 ^ (k + 1) * (2 * m + 1) = 2 * (2 ^ k * (2 * m + 1)) := by rw [Nat.pow_succ, Nat.mul_comm (2 ^ k) 2, Nat.mul_assoc]
    rw [hx]
    cases j with
    | zero => rw [Nat.testBit_zero, decide_eq_false (by omega), decide_eq_false (by omega)]
    | succ j =>
      rw [Nat.testBit_add_one, Nat.mul_div_cancel_left _ (by decide), ih m j (by omega)]
      exact decide_eq_decide.2 (by omega)
theorem low_ctz {x : Nat} (h0 : x ≠ 0) (h : x < 2 ^ 64) : x.testBit (Lib.ctz 64 x) = true ∧ (∀ j, j < Lib.ctz 64 x → x.testBit j = false) ∧ x &&& (x - 1) = x - 2 ^ Lib.ctz 64 x := by
  obtain ⟨m, hm, _⟩ := Lib.ctzFrom_spec 64 x (by omega) h
  have e : Lib.ctz 64 x = Lib.ctzFrom 64 x := by simp [Lib.ctz, h0]
  rw [e]
  generalize Lib.ctzFrom 64 x = k at hm ⊢
  subst hm
  refine ⟨?_, fun j hj => ?_, and_pred k m⟩
  · rw [low_bits k m k (Nat.le_refl _), decide_eq_true rfl]
  · rw [low_bits k m j (by omega), decide_eq_false (by omega)]
theorem bits_low {n x k : Nat} (hk : k < n) (h1 : x.testBit k = true) (h2 : ∀ j, j < k → x.testBit j = false) : bitsI n x = (k : Int) :: bitsI n (x - 2 ^ k) := by
  have hmem : ∀ a, a ∈ bitsI n x ↔ a ∈ (k : Int) :: bitsI n (x - 2 ^ k) := by
    intro a
    rw [List.mem_cons, mem_bits, mem_bits]
    constructor
    · rintro ⟨i, hi, hb, rfl⟩
      by_cases e : i = k
      · exact Or.inl (by rw [e])
      · exact Or.inr ⟨i, hi, by rw [clear_bit k x h1, hb, decide_eq_true e]; rfl, rfl⟩
    · rintro (rfl | ⟨i, hi, hb, rfl⟩)
      · exact ⟨k, hk, h1, rfl⟩
      · exact ⟨i, hi, clear_sub h1 i hb, rfl⟩
  have p1 := bits_asc n x
  have p2 : ((k : Int) :: bitsI n (x - 2 ^ k)).Pairwise (· < ·) := by
    rw [List.pairwise_cons]
    refine ⟨fun a ha => ?_, bits_asc _ _⟩
    obtain ⟨i, _, hb, rfl⟩ := mem_bits.1 ha
    rw [clear_bit k x h1, Bool.and_eq_true, decide_eq_true_eq] at hb
    have : ¬ i < k := fun hlt => by rw [h2 i hlt] at hb; exact absurd hb.1 (by simp)
    omega
  have n1 : (bitsI n x).Nodup := p1.imp fun h e => by omega
  have n2 : ((k : Int) :: bitsI n (x - 2 ^ k)).Nodup := p2.imp fun h e => by omega
  have hp : (bitsI n x).Perm ((k : Int) :: bitsI n (x - 2 ^ k)) := (List.perm_ext_iff_of_nodup n1 n2).2 hmem
  exact List.Perm.eq_of_pairwise (le := (· < ·)) (fun a b _ _ h1 h2 => by omega) p1 p2 hp
theorem bits_nil (n : Nat) : bitsI n 0 = [] := by
  unfold bitsI
  rw [List.filter_eq_nil_iff.2 (fun i _ => by rw [Nat.zero_testBit]; simp)]
  rfl
end Go.Proofs.YtlhpfhnbeagnaaaGreatDoor
namespace Go.Proofs.YtlhpfhnbeagnaaaGreatDoor
theorem drop_at {α : Type} (l : List α) (d : α) {k : Nat} (h : k < l.length) : l.drop k = l.getD k d :: l.drop (k + 1) := by
  rw [List.getD_eq_getElem?_getD, List.getElem?_eq_getElem h]; exact List.drop_eq_getElem_cons h
theorem take_at {α : Type} (l : List α) (d : α) {k : Nat} (h : k < l.length) : l.take (k + 1) = l.take k ++ [l.getD k d] := by
  rw [List.take_succ_eq_append_getElem h, List.getD_eq_getElem?_getD, List.getElem?_eq_getElem h]; rfl
theorem getD_mem {α : Type} {l : List α} {d : α} {k : Nat} (h : k < l.length) : l.getD k d ∈ l := by
  rw [List.getD_eq_getElem?_getD, List.getElem?_eq_getElem h]; exact List.getElem_mem h
def gt0 : Gt := ⟨0, 0, []⟩
theorem argsE_at {b : Int} {l : List Int} {k : Nat} (h : k < l.length) : argsE b (l.take k) (l.drop k) = if l.getD k 0 < 0 ∨ b ≤ l.getD k 0 then 9 else if l.getD k 0 ∈ l.take k then 7 else argsE b (l.take (k + 1)) (l.drop (k + 1)) := by
  rw [drop_at l 0 h, take_at l 0 h]
  rfl
theorem argsE_end (b : Int) (l : List Int) : argsE b (l.take l.length) (l.drop l.length) = 0 := by rw [List.drop_length]; rfl
theorem gatesE_at {b : Int} {l : List Gt} {k : Nat} (h : k < l.length) : gatesE (b + k) (l.drop k) = if gateE (l.getD k gt0) (b + k) ≠ 0 then gateE (l.getD k gt0) (b + k) else gatesE (b + (k + 1 : Nat)) (l.drop (k + 1)) := by
  rw [drop_at l gt0 h]
  show (if gateE _ _ ≠ 0 then gateE _ _ else gatesE (b + k + 1) _) = _
  rw [show b + (k : Int) + 1 = b + ((k + 1 : Nat) : Int) by omega]
theorem evE_at {ev p : Int} {l : List Int} {k : Nat} (h : k < l.length) : evE ev p (l.drop k) = if l.getD k 0 < 0 ∨ ev ≤ l.getD k 0 then 6 else if l.getD k 0 ≤ p then 9 else evE ev (l.getD k 0) (l.drop (k + 1)) := by
  rw [drop_at l 0 h]; rfl
def prevI (l : List Int) (k : Nat) : Int := if k = 0 then -1 else l.getD (k - 1) 0
theorem prevI_succ (l : List Int) (k : Nat) : prevI l (k + 1) = l.getD k 0 := by unfold prevI; rw [if_neg (by omega)]; rfl
theorem evE_next {ev : Int} {l : List Int} {k : Nat} (h : k < l.length) : evE ev (prevI l k) (l.drop k) = if l.getD k 0 < 0 ∨ ev ≤ l.getD k 0 then 6 else if 0 < k ∧ l.getD k 0 ≤ l.getD (k - 1) 0 then 9 else evE ev (prevI l (k + 1)) (l.drop (k + 1)) := by
  rw [evE_at h, prevI_succ]
  split
  · rfl
  · rename_i h1
    by_cases hk : k = 0
    · subst hk
      have e : prevI l 0 = -1 := rfl
      rw [if_neg (by omega), if_neg (by omega)]
    · have e : prevI l k = l.getD (k - 1) 0 := if_neg hk
      rw [e]
      by_cases h2 : l.getD k 0 ≤ l.getD (k - 1) 0
      · rw [if_pos h2, if_pos ⟨by omega, h2⟩]
      · rw [if_neg h2, if_neg fun g => h2 g.2]
theorem setL_take {l : List Int} {k : Nat} (h : k < l.length) : setL (l.take (k + 1)) = setL (l.take k) + 2 ^ (l.getD k 0).toNat := by
  rw [take_at l 0 h, setL_append]
  simp [setL]
theorem or_add {s k : Nat} (h : s < 2 ^ k) : s ||| 2 ^ k = s + 2 ^ k := by
  have := Nat.two_pow_add_eq_or_of_lt h 1
  rw [Nat.mul_one] at this
  rw [Nat.or_comm, ← this, Nat.add_comm]
theorem cntB_append (v : List Bool) (a b : List Int) : cntB v (a ++ b) = cntB v a + cntB v b := by
  induction a with
  | nil => simp [cntB]
  | cons x a ih =>
    show (if v.getD x.toNat false = true then 1 else 0) + cntB v (a ++ b) = (if v.getD x.toNat false = true then 1 else 0) + cntB v a + cntB v b
    rw [ih]; omega
theorem cntB_take {v : List Bool} {l : List Int} {k : Nat} (h : k < l.length) : cntB v (l.take (k + 1)) = cntB v (l.take k) + if v.getD (l.getD k 0).toNat false = true then 1 else 0 := by
  rw [take_at l 0 h, cntB_append]
  simp [cntB]
theorem run_append (v : List Bool) (a b : List Gt) : runB v (a ++ b) = runB (runB v a) b := by
  induction a generalizing v with
  | nil => rfl
  | cons x a ih => exact ih _
theorem run_take {v : List Bool} {l : List Gt} {k : Nat} (h : k < l.length) : runB v (l.take (k + 1)) = runB v (l.take k) ++ [gateB (l.getD k gt0) (cntB (runB v (l.take k)) (l.getD k gt0).args)] := by
  rw [take_at l gt0 h, run_append]
  rfl
theorem bits0_succ (k s : Nat) : bits0 (k + 1) s = bits0 k s ++ [s.testBit k] := by
  unfold bits0
  rw [List.range_succ, List.map_append]
  rfl
theorem GtsOk.at : ∀ {l : List Gt} {b : Int}, GtsOk b l → ∀ {k : Nat}, k < l.length → GtOk (l.getD k gt0) (b + k) := by
  intro l
  induction l with
  | nil => intro b _ k h; simp at h
  | cons g l ih =>
    intro b h k hk
    cases k with
    | zero => rw [show b + ((0 : Nat) : Int) = b by omega]; exact h.1
    | succ k =>
      have := ih h.2 (k := k) (by simpa using hk)
      rw [show b + 1 + (k : Int) = b + ((k + 1 : Nat) : Int) by omega] at this
      exact this
theorem args_in {t : Tr} (h : TrOk t) {s k : Nat} (hk : k < t.gates.length) {a : Int} (ha : a ∈ (t.gates.getD k gt0).args) : 0 ≤ a ∧ a.toNat < (runB (bits0 t.ev.toNat s) (t.gates.take k)).length := by
  have h1 := (h.ok.at hk).rng a ha
  have h2 := h.e1
  rw [run_len, bits0_len, List.length_take]
  omega
theorem range_drop {n k : Nat} (h : k < n) : (List.range n).drop k = k :: (List.range n).drop (k + 1) := by
  rw [drop_at (List.range n) 0 (by simpa using h)]
  congr 1
  rw [List.getD_eq_getElem?_getD, List.getElem?_range h]; rfl
theorem range_take {n k : Nat} (h : k < n) : (List.range n).take (k + 1) = (List.range n).take k ++ [k] := by
  rw [take_at (List.range n) 0 (by simpa using h)]
  congr 2
  rw [List.getD_eq_getElem?_getD, List.getElem?_range h]; rfl
theorem range_done (n : Nat) : (List.range n).drop n = [] := List.drop_eq_nil_iff.2 (by simp)
theorem rawL_take {t : Tr} {n k : Nat} (h : k < n) : rawL t ((List.range n).take (k + 1)) = rawL t ((List.range n).take k) ++ if minB t k = true then [bitsI 16 k] else [] := by
  rw [range_take h]
  unfold rawL
  rw [List.filter_append, List.map_append]
  congr 1
  by_cases hm : minB t k = true
  · rw [List.filter_cons_of_pos hm, if_pos hm]; rfl
  · rw [List.filter_cons_of_neg hm, if_neg hm]; rfl
theorem leastFrom_drop {t : Tr} {b n k : Nat} (h : k < n) : leastFrom t b ((List.range n).drop k) = leastFrom t (if cardN 16 k < b ∧ topB t k = true then cardN 16 k else b) ((List.range n).drop (k + 1)) := by
  rw [range_drop h]; rfl
end Go.Proofs.YtlhpfhnbeagnaaaGreatDoor
namespace Go.Proofs.YtlhpfhnbeagnaaaGreatDoor
open Go.RowKit
def rngOf : Code → List (Code × Code)
  | .seq a b => rngOf a ++ rngOf b
  | .block _ c => rngOf c
  | .loop c => rngOf c
  | .cond _ a b => rngOf a ++ rngOf b
  | .rangeFunc _ _ a b => [(a, b)]
  | _ => []
def isRec : Obj → Bool
  | .loop _ => true
  | .deferred _ => true
  | _ => false
def Keep (n : Nat) (A B : World) : Prop := Below n A B ∧ ∀ (k : Nat) (o : Obj), A.heap[k]? = some o → isRec o = false → B.heap[k]? = some o
theorem Keep.refl (n : Nat) (A : World) : Keep n A A := ⟨Below.refl _ _, fun _ _ h _ => h⟩
theorem Keep.trans {n : Nat} {A B C : World} (h : Keep n A B) (k : Keep n B C) : Keep n A C := ⟨h.1.trans k.1, fun i o hi ho => k.2 i o (h.2 i o hi ho) ho⟩
theorem Keep.alloc {n : Nat} {A : World} (hn : n ≤ A.heap.size) (o : Obj) : Keep n A (A.alloc o) :=
  ⟨(Below.refl _ _).alloc hn o, fun k o' h _ => by
    have hk : k < A.heap.size := (Array.getElem?_eq_some_iff.1 h).1
    rw [Below.heap_alloc _ _ _ hk]; exact h⟩
theorem Keep.turn {n l : Nat} {A : World} {o o' : Obj} (hn : n ≤ l) (h : A.heap[l]? = some o) (hr : isRec o = true) : Keep n A (A.putObj l o') :=
  ⟨(Below.refl _ _).grown (grownBy_putObj' A l o') (by have := (Array.getElem?_eq_some_iff.1 h).1; omega) (fun k e => by cases e; exact hn), fun k x hx hxr => by
    have : k ≠ l := fun e => by subst e; rw [h] at hx; cases hx; rw [hr] at hxr; cases hxr
    rw [World.putObj_heap_other this]; exact hx⟩
theorem Keep.ext {n : Nat} {A B : World} (h : Ext A B) (hn : n ≤ A.heap.size) : Keep n A B :=
  ⟨h.mono hn, fun k o hk _ => by
    have hk' : k < A.heap.size := (Array.getElem?_eq_some_iff.1 hk).1
    rw [Below.block h k hk']; exact hk⟩
def Kept (Kd : Nat → Prop) (n : Nat) (A B : World) : Prop := A.heap.size ≤ B.heap.size ∧ ∀ (k : Nat) (o : Obj), Kd k → A.heap[k]? = some o → (isRec o = false ∨ n ≤ k) → B.heap[k]? = some o
theorem Kept.refl (Kd : Nat → Prop) (n : Nat) (A : World) : Kept Kd n A A := ⟨Nat.le_refl _, fun _ _ _ h _ => h⟩
theorem Kept.trans {Kd : Nat → Prop} {n : Nat} {A B C : World} (h : Kept Kd n A B) (k : Kept Kd n B C) : Kept Kd n A C := ⟨Nat.le_trans h.1 k.1, fun i o hd hi ho => k.2 i o hd (h.2 i o hd hi ho) ho⟩
theorem Kept.turn {Kd : Nat → Prop} {n l : Nat} {A : World} {o o' : Obj} (hn : l < n) (h : A.heap[l]? = some o) (hr : isRec o = true) : Kept Kd n A (A.putObj l o') :=
  ⟨(grownBy_putObj' A l o').size, fun k x _ hx hxr => by
    have : k ≠ l := fun e => by
      subst e; rw [h] at hx; cases hx
      rcases hxr with hxr | hxr
      · rw [hr] at hxr; cases hxr
      · omega
    rw [World.putObj_heap_other this]; exact hx⟩
theorem Kept.ext {A B : World} (h : Ext A B) (Kd : Nat → Prop) (n : Nat) : Kept Kd n A B :=
  ⟨h.size, fun k o _ hk _ => by rw [Below.block h k (Array.getElem?_eq_some_iff.1 hk).1]; exact hk⟩
def Iter {α : Type} (P : Program) (g : Nat) (lb : Array Value) (encs : α → Array Value) (xs : List α) (R : Nat → World → World → Prop) (Kd : Nat → Nat → Prop) (m : Nat) (w : World) : Prop :=
  ∀ (l : Nat) (J Jx : List α → World → Prop) (W : World), Ext w W →
    (∀ pre A B, J pre A → R W.heap.size A B → J pre B) → (∀ pre A B, Jx pre A → R W.heap.size A B → Jx pre B) →
    (∀ pre x W1, pre ++ [x] <+: xs → W.heap.size + m ≤ W1.heap.size → J pre W1 → YieldAt Fence.wide 0 P l (encs x) W1 fun e W' =>
      (e = .returned (.bool true) ∧ J (pre ++ [x]) W' ∧ Kept (Kd W.heap.size) W.heap.size W1 W') ∨ (e = .returned (.bool false) ∧ Jx (pre ++ [x]) W' ∧ Kept (Kd W.heap.size) W.heap.size W1 W')) →
    J [] W →
    CallsIn Fence.wide 0 P g (#[.func (.yield l) #[] #[]] ++ lb) W fun e W' => (∃ v, e = .returned v) ∧ (J xs W' ∨ ∃ pre, pre <+: xs ∧ Jx pre W')
def roundQ {α : Type} (Kd : Nat → Prop) (n : Nat) (I : List α → World → Prop) (Ix : Code → List α → World → Prop) (xs : List α) (w0 W : World) : Exit → Act → World → Prop
  | .normal, _, W' => Kept Kd n W W' ∧ KeepsFrom w0.heap.size W W' ∧ I xs W'
  | .ret, _, W' => Kept Kd n W W' ∧ KeepsFrom w0.heap.size W W' ∧ Ix .ret xs W'
  | .exit id, _, W' => Kept Kd n W W' ∧ KeepsFrom w0.heap.size W W' ∧ Ix (.exit id) xs W'
  | .goto t, _, W' => Kept Kd n W W' ∧ KeepsFrom w0.heap.size W W' ∧ Ix (.goto t) xs W'
  | .panic _, _, _ => False
  | .outgrown, _, _ => False
theorem wp_range {α : Type} {P : Program} {n : Nat} {g : Operand} {ps : Array Tmp} {assign body : Code} {Q : Exit → Act → World → Prop} {a : Act} {w : World}
    {gf : Nat} {lb : Array Value} (hg : a.eval g = .func (.func gf) #[] lb) (eg : ∀ args w, (callFunc gf args).run P w = .ok (.enter gf args) w)
    {encs : α → Array Value} {xs : List α} {R : Nat → World → World → Prop} {Kd : Nat → Nat → Prop} {m : Nat} (hseq : Iter P gf lb encs xs R Kd m w)
    (hps : ∀ x, (encs x).size = ps.size)
    (hR : ∀ A B, R (w.heap.size + 2) A B → ∀ (k : Nat) (o : Obj), k < w.heap.size + 2 → A.heap[k]? = some o → B.heap[k]? = some o)
    (I : List α → World → Prop) (Ix : Code → List α → World → Prop)
    (hIR : ∀ pre A B, I pre A → R (w.heap.size + 2) A B → I pre B) (hIxR : ∀ c pre A B, Ix c pre A → R (w.heap.size + 2) A B → Ix c pre B)
    (hIK : ∀ pre A B, I pre A → Keep w.heap.size A B → I pre B) (hIxK : ∀ c pre A B, Ix c pre A → Keep w.heap.size A B → Ix c pre B)
    (h0 : I [] w) (Ax : α → Act → World → Prop) (hAxK : ∀ x a' A B, Ax x a' A → Keep w.heap.size A B → Ax x a' B)
    (hassign : ∀ (l : Nat) (pre : List α) (x : α) (W : World) (K : Act → World → Prop), w.heap.size + 2 + m ≤ W.heap.size → I pre W → (∀ a' W', Ext W W' → Ax x a' W' → K a' W') →
      assign.wpIn (Fence.wide.inRound l) 0 P (Exit.then K (fun _ _ _ => False)) { tmps := (ps.zip (encs x)).foldl (fun t (p, v) => t.setIfInBounds p v) a.tmps, defers := [] } W)
    (hbody : ∀ (l : Nat) (pre : List α) (x : α) (a' : Act) (W : World), pre ++ [x] <+: xs → w.heap.size + 2 + m ≤ W.heap.size → I pre W → Ax x a' W →
      body.wpIn (Fence.wide.inRound l) 0 P (roundQ (Kd (w.heap.size + 2)) (w.heap.size + 2) I Ix (pre ++ [x]) w W) a' W)
    (hIE : ∀ pre A B, I pre A → Ext A B → I pre B)
    (hdone : ∀ (D : Nat) (W : World), w.heap.size ≤ D → D < W.heap.size → I xs W → W.heap[D]? = some (.deferred (some [])) → Q .normal { a with defers := { target := .collected D, args := #[] } :: a.defers } W)
    (hstop : ∀ (D : Nat) (c : Code) (pre : List α) (W : World), w.heap.size ≤ D → D < W.heap.size → pre <+: xs → Ix c pre W → W.heap[D]? = some (.deferred (some [])) → c.wp P Q { a with defers := { target := .collected D, args := #[] } :: a.defers } W) :
    (Code.rangeFunc g ps assign body).wp P Q a w := by
  refine (wpIn_wide (n := n)).1 (wpIn_rangeFunc ?_)
  intro fn hfn
  obtain ⟨rec, hrec⟩ : ∃ rec : LoopState → Option Code → Loop, rec = fun st pe => { state := st, pending := pe, fn, tmps := a.tmps, params := ps, assign, body, defers := w.heap.size } := ⟨_, rfl⟩
  obtain ⟨W1, hW1⟩ : ∃ W1, (w.alloc (.deferred (some []))).alloc (.loop (rec .ready none)) = W1 := ⟨_, rfl⟩
  have hsz : W1.heap.size = w.heap.size + 2 := by rw [← hW1]; simp
  have hL1 : W1.heap[w.heap.size + 1]? = some (.loop (rec .ready none)) := by
    rw [← hW1]; have := World.alloc_heap_new (w.alloc (.deferred (some []))) (.loop (rec .ready none)); rwa [World.size_alloc] at this
  have hD1 : W1.heap[w.heap.size]? = some (.deferred (some [])) := by
    rw [← hW1]; exact (Below.heap_alloc _ _ _ (by simp)).trans (World.alloc_heap_new w _)
  have hE1 : Ext w W1 := by rw [← hW1]; exact ((Ext.refl w).alloc _).alloc _
  have hI1 : I [] W1 := hIE _ _ _ h0 hE1
  refine ⟨w.heap.size + 1, [{ target := .collected w.heap.size, args := #[] }], W1, { target := .fn (.func gf) lb, args := #[.func (.yield (w.heap.size + 1)) #[] #[]] }, W1, gf,
    #[.func (.yield (w.heap.size + 1)) #[] #[]] ++ lb, W1, ?_, ?_, fun _ _ => trivial, ?_, (fun h => by cases h), ?_⟩
  · rw [← hW1, hrec]; exact run_enterLoop_outer _ _ _ _ _
  · simp only [resolve, hg]
    simp [go_sem]
  · simp [invoke, go_sem, eg]
  have wide0 : ∀ {f : FuncId} {args : Array Value} {v : World} {T : Ending → World → Prop}, CallsIn Fence.wide 0 P f args v T → CallsIn Fence.wide (n - 1) P f args v T := fun h => callsIn_wide.2 (callsIn_wide.1 h)
  refine wide0 ?_
  have key := hseq (w.heap.size + 1)
    (fun pre W => I pre W ∧ W.heap[w.heap.size + 1]? = some (.loop (rec .ready none)) ∧ W.heap[w.heap.size]? = some (.deferred (some [])))
    (fun pre W => ∃ c, Ix c pre W ∧ W.heap[w.heap.size + 1]? = some (.loop (rec .done (some c))) ∧ W.heap[w.heap.size]? = some (.deferred (some [])))
    W1 hE1
  rw [hsz] at key
  have key2 := key
    (fun pre A B h hr => ⟨hIR _ _ _ h.1 hr, hR _ _ hr _ _ (by omega) h.2.1, hR _ _ hr _ _ (by omega) h.2.2⟩)
    (fun pre A B h hr => by
      obtain ⟨c, h1, h2, h3⟩ := h
      exact ⟨c, hIxR _ _ _ _ h1 hr, hR _ _ hr _ _ (by omega) h2, hR _ _ hr _ _ (by omega) h3⟩)
  clear key
  refine CallsIn.mono (key2 ?_ ⟨hI1, hL1, hD1⟩) ?_
  · 
    rintro pre x W hpre hm ⟨hi, hl, hd⟩
    have hy := run_yield (P := P) (args := encs x) hl (by rw [hrec]; exact hps x)
    rw [hrec] at hy
    refine ⟨fn, _, assign, body, hy, roundIn_of_wpIn hfn (hassign _ pre x W _ hm hi ?_)⟩
    clear hy
    intro a' Wa hEa hAx
    have hla : Wa.heap[w.heap.size + 1]? = some (.loop (rec .ready none)) := (Below.block hEa _ (Array.getElem?_eq_some_iff.1 hl).1).trans hl
    have hda : Wa.heap[w.heap.size]? = some (.deferred (some [])) := (Below.block hEa _ (Array.getElem?_eq_some_iff.1 hd).1).trans hd
    have hia : I pre Wa := hIE _ _ _ hi hEa
    have hlt : w.heap.size + 1 < Wa.heap.size := (Array.getElem?_eq_some_iff.1 hla).1
    refine ⟨_, run_beginRound hla (by rw [hrec]), ?_⟩
    obtain ⟨W2, hW2⟩ : ∃ W2, Wa.putObj (w.heap.size + 1) (.loop { rec .ready none with state := .busy }) = W2 := ⟨_, rfl⟩
    have hT : Keep w.heap.size Wa W2 := by rw [← hW2]; exact Keep.turn (by omega) hla rfl
    have hl2 : W2.heap[w.heap.size + 1]? = some (.loop { rec .ready none with state := .busy }) := by rw [← hW2]; exact World.putObj_heap_same hlt
    have hd2 : W2.heap[w.heap.size]? = some (.deferred (some [])) := by rw [← hW2]; exact (World.putObj_heap_other (by omega)).trans hda
    rw [hW2]
    refine wpIn_mono (hbody _ pre x a' W2 hpre (Nat.le_trans hm (Nat.le_trans hEa.size hT.1.size)) (hIK _ _ _ hia hT) (hAxK _ _ _ _ hAx hT)) ?_
    have fin : ∀ (jump : Option Code) (W3 : World), KeepsFrom w.heap.size W2 W3 →
        ∃ W4, (Instr.endRound (w.heap.size + 1) jump).run P W3 = .ok (.bool jump.isNone) W4 ∧ Keep w.heap.size W3 W4 ∧ Kept (Kd (w.heap.size + 2)) (w.heap.size + 2) W3 W4 ∧
          W4.heap[w.heap.size + 1]? = some (.loop (rec (if jump.isNone then .ready else .done) jump)) ∧ W4.heap[w.heap.size]? = some (.deferred (some [])) := fun jump W3 hk3 => by
      have hl3 := hk3.same _ _ (by omega) hl2 rfl
      have hd3 := hk3.same _ _ (Nat.le_refl _) hd2 rfl
      have hr3 := run_endRound (P := P) jump hl3
      have hlt3 := (Array.getElem?_eq_some_iff.1 hl3).1
      rw [hrec] at hr3 ⊢
      exact ⟨_, hr3, Keep.turn (by omega) hl3 rfl, Kept.turn (by omega) hl3 rfl, World.putObj_heap_same hlt3, (World.putObj_heap_other (by omega)).trans hd3⟩
    rintro e a3 W3 hp
    have hW02 : Kept (Kd (w.heap.size + 2)) (w.heap.size + 2) W W2 := (Kept.ext hEa _ _).trans (by rw [← hW2]; exact Kept.turn (by omega) hla rfl)
    cases e with
    | normal =>
      obtain ⟨hkp, hk3, hi3⟩ := hp
      obtain ⟨W4, hr4, hT4, hK4, hl4, hd4⟩ := fin none W3 hk3
      exact ⟨_, _, hr4, .inl ⟨rfl, ⟨hIK _ _ _ hi3 hT4, hl4, hd4⟩, (hW02.trans hkp).trans hK4⟩⟩
    | ret =>
      obtain ⟨hkp, hk3, hi3⟩ := hp
      obtain ⟨W4, hr4, hT4, hK4, hl4, hd4⟩ := fin (some .ret) W3 hk3
      exact ⟨_, _, hr4, .inr ⟨rfl, ⟨_, hIxK _ _ _ _ hi3 hT4, hl4, hd4⟩, (hW02.trans hkp).trans hK4⟩⟩
    | exit id =>
      obtain ⟨hkp, hk3, hi3⟩ := hp
      obtain ⟨W4, hr4, hT4, hK4, hl4, hd4⟩ := fin (some (.exit id)) W3 hk3
      exact ⟨_, _, hr4, .inr ⟨rfl, ⟨_, hIxK _ _ _ _ hi3 hT4, hl4, hd4⟩, (hW02.trans hkp).trans hK4⟩⟩
    | goto t =>
      obtain ⟨hkp, hk3, hi3⟩ := hp
      obtain ⟨W4, hr4, hT4, hK4, hl4, hd4⟩ := fin (some (.goto t)) W3 hk3
      exact ⟨_, _, hr4, .inr ⟨rfl, ⟨_, hIxK _ _ _ _ hi3 hT4, hl4, hd4⟩, (hW02.trans hkp).trans hK4⟩⟩
    | panic ch => exact hp.elim
    | outgrown => exact hp.elim
  · 
    rintro e W2 ⟨⟨v, rfl⟩, (⟨hi, hl, hd⟩ | ⟨pre, hpre, c, hi, hl, hd⟩)⟩
    · have hr := run_endLoop (P := P) hl (by rw [hrec]; simp)
      have hT : Keep w.heap.size W2 _ := Keep.turn (n := w.heap.size) (l := w.heap.size + 1) (A := W2) (o' := .loop { rec .ready none with state := .exhausted }) (by omega) hl rfl
      rw [hrec] at hr hT
      have hd' := (World.putObj_heap_other (w := W2) (r := w.heap.size + 1) (o := .loop { rec .ready none with state := .exhausted }) (k := w.heap.size) (by omega)).trans hd
      rw [hrec] at hd'
      exact ⟨none, _, hr, hdone _ _ (Nat.le_refl _) (Array.getElem?_eq_some_iff.1 hd').1 (hIK _ _ _ hi hT) hd'⟩
    · have hr := run_endLoop (P := P) hl (by rw [hrec]; simp)
      have hT : Keep w.heap.size W2 _ := Keep.turn (n := w.heap.size) (l := w.heap.size + 1) (A := W2) (o' := .loop { rec .done (some c) with state := .exhausted }) (by omega) hl rfl
      rw [hrec] at hr hT
      have hd' := (World.putObj_heap_other (w := W2) (r := w.heap.size + 1) (o := .loop { rec .done (some c) with state := .exhausted }) (k := w.heap.size) (by omega)).trans hd
      rw [hrec] at hd'
      exact ⟨some c, _, hr, wpIn_wide.2 (hstop _ c pre _ (Nat.le_refl _) (Array.getElem?_eq_some_iff.1 hd').1 hpre (hIxK _ _ _ _ hi hT) hd')⟩
def mark (D : Nat) : Deferred := { target := .collected D, args := #[] }
def Marks (n : Nat) (ds : List Deferred) (w : World) : Prop := ∃ Ds : List Nat, ds = Ds.map mark ∧ Ds.Nodup ∧ ∀ D ∈ Ds, n ≤ D ∧ w.heap[D]? = some (.deferred (some []))
theorem Marks.nil (n : Nat) (w : World) : Marks n [] w := ⟨[], rfl, List.nodup_nil, fun _ h => by cases h⟩
theorem Marks.kept {n : Nat} {ds : List Deferred} {A B : World} (h : Marks n ds A) (hk : ∀ D, n ≤ D → A.heap[D]? = some (.deferred (some [])) → B.heap[D]? = some (.deferred (some []))) : Marks n ds B := by
  obtain ⟨Ds, h1, h2, h3⟩ := h
  exact ⟨Ds, h1, h2, fun D hD => ⟨(h3 D hD).1, hk D (h3 D hD).1 (h3 D hD).2⟩⟩
theorem Marks.ext {n : Nat} {ds : List Deferred} {A B : World} (h : Marks n ds A) (he : Ext A B) : Marks n ds B :=
  h.kept fun D _ hD => by rw [Below.block he D (Array.getElem?_eq_some_iff.1 hD).1]; exact hD
theorem Marks.cons {n D : Nat} {ds : List Deferred} {A B : World} (h : Marks n ds A) (hA : A.heap.size ≤ D) (hn : n ≤ D) (hk : Marks n ds B) (hD : B.heap[D]? = some (.deferred (some []))) : Marks n (mark D :: ds) B := by
  obtain ⟨Ds, h1, h2, h3⟩ := h
  obtain ⟨Es, k1, k2, k3⟩ := hk
  refine ⟨D :: Ds, by rw [h1]; rfl, List.nodup_cons.2 ⟨fun hm => ?_, h2⟩, fun E hE => ?_⟩
  · have := (Array.getElem?_eq_some_iff.1 (h3 D hm).2).1
    omega
  · rcases List.mem_cons.1 hE with rfl | hE
    · exact ⟨hn, hD⟩
    · have hEs : Es = Ds := by
        have : Es.map mark = Ds.map mark := by rw [← k1, h1]
        exact List.map_inj_right (fun a b hab => by cases hab; rfl) |>.1 this
      exact k3 E (hEs ▸ hE)
end Go.Proofs.YtlhpfhnbeagnaaaGreatDoor
namespace Go.Proofs.YtlhpfhnbeagnaaaGreatDoor
open Go.RowKit
def AppEnd (w w' : World) (v v' : Value) : Prop := (v'.ownBlock = v.ownBlock ∧ v.ownBlock ≠ none ∧ w.grownBy w' v.ownBlock) ∨ (v'.ownBlock = some w.heap.size ∧ Ext w w')
theorem run_append1 {P : Program} (w : World) (t ty e : TypeId) (i : TypeInfo) (z : Value) (size bytes : Nat) (ht : P.underlying t = some (.slice e)) (hi : P.info? e = some i) (hz : i.zero = some z)
    (hsize : i.size = size) (hby : i.bytes = bytes) (hzs : z.cells.size = size) (hsz : 0 < size)
    (v : Value) (n : Nat) (xs : List Value) (hown : w.ownsRow 0 e size v n xs)
    (a : Addr) (m c : Nat) (hm : 0 < m) (news : List Value) (hl : news.length = m * size) (hnews : ∀ j u, news[j]? = some u → w.cell? (a.add j) = some u) (h1 : ∀ u ∈ news, u.oneCell' = true)
    (h63 : n + m ≤ maxLen) (hbytes : (n + m) * bytes ≤ 140737488355328) :
    ∃ v' w', (Builtin.append_ #[t, t] ty #[v, .slice (some a) m c]).run P w = .ok v' w' ∧ w'.ownsRow 0 e size v' (n + m) (xs ++ news) ∧ AppEnd w w' v v' := by
  obtain ⟨v', w', hr, h2, h3, h4⟩ := run_append_own (P := P) w 0 t ty e i z size bytes ht hi hz hsize hby hzs hsz v n xs hown a m c news hl hnews h1 h63 hbytes (Nat.zero_le _)
  refine ⟨v', w', hr, h2, ?_⟩
  subst hsize
  subst hby
  have hsmall : n + m ≤ 9223372036854775807 := by simp only [maxLen] at h63; omega
  rcases hown.2 with ⟨rfl, rfl⟩ | ⟨g, cap, cur, rfl, hbg, hg, hnc, hcm, hcs, htake⟩
  · have hx := run_append_nil (P := P) w t ty e i z ht hi hz a m c news hl hnews hm (by omega) (by have hb := hbytes; simp only [Nat.zero_add] at hb; omega)
    rw [hr] at hx
    injection hx with e1 e2
    subst e1; subst e2
    exact .inr ⟨rfl, (Ext.refl _).drew.alloc _⟩
  · by_cases hroom : n + m ≤ cap
    · have hfit : n * i.size + news.length ≤ cur.size := by rw [hl, hcs, ← Nat.add_mul]; exact Nat.mul_le_mul_right _ hroom
      have hx := run_append_room (P := P) w t ty e i ht hi g n cap cur hg a m c news hl hnews h1 hroom hfit
      rw [hr] at hx
      injection hx with e1 e2
      subst e1
      exact .inl ⟨rfl, by simp [Value.ownBlock], h3⟩
    · have holds : ∀ j u, xs[j]? = some u → w.cell? ((⟨g, 0, none⟩ : Addr).add j) = some u := hown.cells (g := g) rfl
      have hx := run_append_grow (P := P) w t ty e i z ht hi hz ⟨g, 0, none⟩ n cap xs hown.1 holds a m c news hl hnews (by omega) (by omega) (growslice_fits (by omega) hbytes)
      rw [hr] at hx
      injection hx with e1 e2
      subst e1; subst e2
      exact .inr ⟨rfl, (Ext.refl _).drew.alloc _⟩
theorem wpList_append1 {P : Program} (w : World) {ops : Array Oper} {rest : List Oper} {o : Oper} {a : Act} {Q : Exit → Act → World → Prop} (hgd : o.guard = none) (s x : Operand) (t : TypeId)
    (ho : o.op = .call { callee := .builtin .append, args := #[s, x], argTypes := #[t, t] })
    (e : TypeId) (i : TypeInfo) (z : Value) (size bytes : Nat) (ht : P.underlying t = some (.slice e)) (hi : P.info? e = some i) (hz : i.zero = some z)
    (hsize : i.size = size) (hby : i.bytes = bytes) (hzs : z.cells.size = size) (hsz : 0 < size)
    (v : Value) (n : Nat) (xs : List Value) (hs : a.eval s = v) (hown : w.ownsRow 0 e size v n xs)
    (ad : Addr) (m c : Nat) (hm : 0 < m) (news : List Value) (hx : a.eval x = .slice (some ad) m c) (hl : news.length = m * size) (hnews : ∀ j u, news[j]? = some u → w.cell? (ad.add j) = some u) (h1 : ∀ u ∈ news, u.oneCell' = true)
    (h63 : n + m ≤ maxLen) (hbytes : (n + m) * bytes ≤ 140737488355328)
    (h : ∀ v' w', w'.ownsRow 0 e size v' (n + m) (xs ++ news) → AppEnd w w' v v' → wpList P ops Q rest (a.put o.dst v') w') : wpList P ops Q (o :: rest) a w := by
  obtain ⟨v', w', hr, h2, h3⟩ := run_append1 (P := P) w t o.type e i z size bytes ht hi hz hsize hby hzs hsz v n xs hown ad m c hm news hl hnews h1 h63 hbytes
  refine wpList_plain hgd fun K hK => ?_
  unfold Oper.wp execOp
  simp only [ho, resolve, invoke, builtin, Sem.run_bind, Sem.run_pure, Result.andThen_ok, List.map_toArray, List.map_cons, List.map_nil, hs, hx, hr]
  exact hK _ _ (h v' w' h2 h3)
end Go.Proofs.YtlhpfhnbeagnaaaGreatDoor
namespace Go.Proofs.YtlhpfhnbeagnaaaGreatDoor
open Go.RowKit
theorem rowExt {A B : World} {e : TypeId} {s : Nat} {v : Value} {n : Nat} {xs : List Value} (h : A.ownsRow 0 e s v n xs) (k : Ext A B) : B.ownsRow 0 e s v n xs := by
  obtain ⟨h1, h2⟩ := h
  refine ⟨h1, ?_⟩
  rcases h2 with h2 | ⟨g, cap, cur, hv, hg, hh, r⟩
  · exact .inl h2
  · exact .inr ⟨g, cap, cur, hv, hg, (Below.block k g (Array.getElem?_eq_some_iff.1 hh).1).trans hh, r⟩
theorem rowSame {A B : World} {e : TypeId} {s : Nat} {v : Value} {n : Nat} {xs : List Value} (h : A.ownsRow 0 e s v n xs) (k : ∀ b, v.ownBlock = some b → B.heap[b]? = A.heap[b]?) : B.ownsRow 0 e s v n xs := by
  obtain ⟨h1, h2⟩ := h
  refine ⟨h1, ?_⟩
  rcases h2 with h2 | ⟨g, cap, cur, hv, hg, hh, r⟩
  · exact .inl h2
  · exact .inr ⟨g, cap, cur, hv, hg, (k g (by rw [hv]; rfl)).trans hh, r⟩
theorem rowLt {A : World} {e : TypeId} {s : Nat} {v : Value} {n : Nat} {xs : List Value} (h : A.ownsRow 0 e s v n xs) {b : Nat} (hb : v.ownBlock = some b) : b < A.heap.size := (World.ownsRow.lt h b hb).2
theorem rowReads {A : World} {e : TypeId} {s : Nat} {v : Value} {n : Nat} {xs : List Value} (h : A.ownsRow 0 e s v n xs) :
    ∃ a cap, v = .slice a n cap ∧ n ≤ maxLen ∧ ∀ j u, xs[j]? = some u → ∃ b, a = some ⟨b, 0, none⟩ ∧ v.ownBlock = some b ∧ A.cell? ⟨b, j, none⟩ = some u ∧ A.frozen? ⟨b, j, none⟩ = false := by
  rcases h.2 with ⟨hv, hn⟩ | ⟨g, cap, cur, hv, hg, hh, hnc, hm, hcs, ht⟩
  · subst hn
    exact ⟨none, 0, hv, by simp [maxLen], fun j u hj => by
      have := h.1
      simp at this; subst this; simp at hj⟩
  · refine ⟨some ⟨g, 0, none⟩, cap, hv, by omega, fun j u hj => ⟨g, rfl, by rw [hv]; rfl, ?_, ?_⟩⟩
    · have hc := World.ownsRow.cells h (g := g) (by rw [hv]; rfl) j u hj
      rwa [Addr.add_lit, Nat.zero_add] at hc
    · rw [hv] at h
      exact h.frozenAt j
theorem AppEnd.chg {A B : World} {v v' : Value} (h : AppEnd A B v v') : (∀ b, b < A.heap.size → v.ownBlock ≠ some b → B.heap[b]? = A.heap[b]?) ∧ A.heap.size ≤ B.heap.size ∧ ∀ b, v'.ownBlock = some b → v.ownBlock = some b ∨ A.heap.size ≤ b := by
  rcases h with ⟨h1, _, hg⟩ | ⟨h1, he⟩
  · exact ⟨fun b hb hne => hg.block b hb hne.symm, hg.size, fun b hb => .inl (h1 ▸ hb)⟩
  · exact ⟨fun b hb _ => Below.block he b hb, he.size, fun b hb => .inr (by rw [h1] at hb; cases hb; exact Nat.le_refl _)⟩
theorem AppEnd.below {n : Nat} {A B : World} {v v' : Value} (h : AppEnd A B v v') (hn : n ≤ A.heap.size) (hv : ∀ b, v.ownBlock = some b → n ≤ b) : Below n A B := by
  rcases h with ⟨_, _, hg⟩ | ⟨_, he⟩
  · exact (Below.refl _ _).grown hg hn hv
  · exact he.mono hn
theorem AppEnd.ge {n : Nat} {A B : World} {v v' : Value} (h : AppEnd A B v v') (hn : n ≤ A.heap.size) (hv : ∀ b, v.ownBlock = some b → n ≤ b) : ∀ b, v'.ownBlock = some b → n ≤ b := fun b hb => by
  rcases h with ⟨h1, _, _⟩ | ⟨h1, _⟩
  · exact hv b (h1 ▸ hb)
  · rw [h1] at hb; cases hb; exact hn
theorem cellB {n : Nat} {A B : World} (h : Below n A B) {p : Addr} {v : Value} (hp : p.block < n) (hc : A.cell? p = some v) : B.cell? p = some v := (Below.cell h hp).trans hc
theorem cells_one (w : World) (xs : List Value) (t : TypeId) : ∀ j u, xs[j]? = some u → (w.alloc (.cells xs.toArray t)).cell? ((⟨w.heap.size, 0, none⟩ : Addr).add j) = some u := by
  intro j u h
  rw [Addr.add_lit, World.cell?_alloc_new, Nat.zero_add]
  simpa using h
end Go.Proofs.YtlhpfhnbeagnaaaGreatDoor
namespace Go.Proofs.YtlhpfhnbeagnaaaGreatDoor
open Go.RowKit
def CellsI (w : World) (a : Option Addr) (l : List Int) : Prop := ∀ i, i < l.length → ∃ b off, a = some ⟨b, off, none⟩ ∧ w.cell? ⟨b, off + i, none⟩ = some (.int .i64 (l.getD i 0))
theorem CellsI.ext {w w' : World} {a : Option Addr} {l : List Int} (h : CellsI w a l) (he : Ext w w') : CellsI w' a l := fun i hi => by
  obtain ⟨b, off, h1, h2⟩ := h i hi
  exact ⟨b, off, h1, he.cell h2⟩
theorem CellsI.nil (w : World) (a : Option Addr) : CellsI w a [] := fun i hi => by simp at hi
def vals (l : List Int) : List Value := l.map (Value.int .i64)
def OwnsI (w : World) (v : Value) (l : List Int) : Prop := w.ownsRow 0 3 1 v l.length (vals l)
theorem OwnsI.nil (w : World) : OwnsI w (.slice none 0 0) [] := World.ownsRow_nil w 0 _ _
theorem OwnsI.ext {A B : World} {v : Value} {N : List Int} (ho : OwnsI A v N) (h : Ext A B) : OwnsI B v N := rowExt ho h
theorem OwnsI.lt {A : World} {v : Value} {N : List Int} (ho : OwnsI A v N) {b : Nat} (hb : v.ownBlock = some b) : b < A.heap.size := (World.ownsRow.lt ho b hb).2
theorem OwnsI.reads {A : World} {v : Value} {N : List Int} (ho : OwnsI A v N) : ∃ a cap, v = .slice a N.length cap ∧ CellsI A a N ∧ (N = [] ∨ ∃ b, a = some ⟨b, 0, none⟩ ∧ v.ownBlock = some b ∧ ∀ i, i < N.length → A.cell? ⟨b, i, none⟩ = some (.int .i64 (N.getD i 0)) ∧ A.frozen? ⟨b, i, none⟩ = false) := by
  rcases ho.2 with ⟨hv, hn⟩ | ⟨g, cap, cur, hv, hg, hh, hnc, hm, hcs, ht⟩
  · have : N = [] := List.eq_nil_of_length_eq_zero hn
    subst this
    exact ⟨none, 0, hv, CellsI.nil _ _, .inl rfl⟩
  · have key : ∀ i, i < N.length → A.cell? ⟨g, i, none⟩ = some (.int .i64 (N.getD i 0)) := fun i hi => by
      have hc := World.ownsRow.cells ho (g := g) (by rw [hv]; rfl)
      have := hc i (.int .i64 (N.getD i 0)) (by simp [vals, List.getD, hi])
      rwa [Addr.add_lit, Nat.zero_add] at this
    refine ⟨some ⟨g, 0, none⟩, cap, hv, fun i hi => ⟨g, 0, rfl, by rw [Nat.zero_add]; exact key i hi⟩, .inr ⟨g, rfl, by rw [hv]; rfl, fun i hi => ⟨key i hi, ?_⟩⟩⟩
    have ho' : A.ownsRow 0 3 1 (.slice (some ⟨g, 0, none⟩) N.length cap) N.length (vals N) := by have h9 := ho; unfold OwnsI at h9; rw [hv] at h9; exact h9
    exact ho'.frozenAt i
theorem OwnsI.isCells {A : World} {v : Value} {N : List Int} (h : OwnsI A v N) {b : Nat} (hb : v.ownBlock = some b) {o : Obj} (ho : A.heap[b]? = some o) : o.isCells = true := by
  rcases h.2 with ⟨hv, _⟩ | ⟨g, cap, cur, hv, _, hh, _⟩
  · rw [hv] at hb; cases hb
  · rw [hv] at hb; cases hb
    rw [hh] at ho; cases ho; rfl
theorem ownsI_succ {w : World} {v : Value} {N : List Int} {x : Int} (h : w.ownsRow 0 3 1 v (N.length + 1) (vals N ++ [.int .i64 x])) : OwnsI w v (N ++ [x]) := by
  unfold OwnsI vals
  rw [List.length_append, List.length_singleton, List.map_append]
  exact h
theorem infoInt : (Tryz.prog.info? 3).map (fun i => (i.zero, i.size, i.bytes)) = some (some (.int .i64 0), 1, 8) := by kernel_rfl
theorem step_app {P : Program} {ops : Array Oper} {o : Oper} {a : Act} {w : World} {K : Act → World → Prop} {Q : Exit → Act → World → Prop} {E : Prop} (hgd : o.guard = none) (s x : Operand) (t u : TypeId)
    (ho : o.op = .call { callee := .builtin .append, args := #[s, x], argTypes := #[t, u] }) (v y : Value) (hs : a.eval s = v) (hx : a.eval x = y)
    (v' : Value) (w' : World) (hr : (Builtin.append_ #[t, u] o.type #[v, y]).run P w = .ok v' w')
    (h : K (a.put o.dst v') w') :
    if Region.wanted o (yielded ops a.tmps) = true then Oper.wp P o a w K Q else E := by
  have hw : Region.wanted o (yielded ops a.tmps) = true := by simp [Region.wanted, hgd]
  rw [if_pos hw]
  unfold Oper.wp execOp
  simp only [ho, resolve, invoke, builtin, Sem.run_bind, Sem.run_pure, Result.andThen_ok, List.map_toArray, List.map_cons, List.map_nil, hs, hx, hr]
  exact h
theorem OwnsI.full {A : World} {v : Value} {N : List Int} (ho : OwnsI A v N) : ∃ a cap, v = .slice a N.length cap ∧ CellsI A a N ∧ N.length ≤ cap ∧ cap ≤ maxLen := by
  obtain ⟨a, cap, h1, h2, _⟩ := ho.reads
  refine ⟨a, cap, h1, h2, ?_⟩
  rcases ho.2 with ⟨hv, hn⟩ | ⟨g, cap2, cur, hv, hg, hh, hnc, hm, hcs, ht⟩
  · rw [h1] at hv
    injection hv with _ e1 e2
    rw [e1, e2]; exact ⟨Nat.le_refl _, Nat.zero_le _⟩
  · rw [h1] at hv
    injection hv with _ _ e2
    rw [e2]; exact ⟨hnc, hm⟩
theorem OwnsI.app1 {w : World} {v : Value} {l : List Int} (h : OwnsI w v l) {x : Int} {g : Nat} (c : Nat) (hc : w.cell? ⟨g, 0, none⟩ = some (.int .i64 x)) (hl : l.length ≤ 100000) {n : Nat} (hn : n ≤ w.heap.size) (hv : ∀ b, v.ownBlock = some b → n ≤ b) :
    ∃ v' w', (Builtin.append_ #[25, 25] 25 #[v, .slice (some ⟨g, 0, none⟩) 1 c]).run Tryz.prog w = .ok v' w' ∧ OwnsI w' v' (l ++ [x]) ∧ (∀ b, v'.ownBlock = some b → n ≤ b) ∧ Below n w w' ∧ ∀ k, k < w.heap.size → v.ownBlock ≠ some k → w'.heap[k]? = w.heap[k]? := by
  obtain ⟨i0, hi, hi0, hi1, hi2⟩ := info_parts infoInt
  obtain ⟨v', w', hr, h2, he⟩ := run_append1 (P := Tryz.prog) w 25 25 3 i0 (.int .i64 0) 1 8 Tryz.underlying25 hi hi0 hi1 hi2 rfl (by decide) v l.length _ h ⟨g, 0, none⟩ 1 c (by decide) [.int .i64 x] rfl (fun j u hj => by
    match j, hj with
    | 0, hj => simp at hj; subst hj; rw [Addr.add_lit, Nat.zero_add]; exact hc) (by intro u hu; simp at hu; subst hu; rfl) (by unfold maxLen; omega) (by omega)
  exact ⟨v', w', hr, ownsI_succ h2, he.ge hn hv, he.below hn hv, he.chg.1⟩
end Go.Proofs.YtlhpfhnbeagnaaaGreatDoor
namespace Go.Proofs.YtlhpfhnbeagnaaaGreatDoor
open Go.RowKit
def SliceI (w : World) (v : Value) (l : List Int) : Prop := ∃ a cap, v = .slice a l.length cap ∧ CellsI w a l ∧ l.length ≤ cap ∧ cap ≤ maxLen
theorem SliceI.ext {w w' : World} {v : Value} {l : List Int} (h : SliceI w v l) (he : Ext w w') : SliceI w' v l := by
  obtain ⟨a, cap, h1, h2, h3, h4⟩ := h
  exact ⟨a, cap, h1, h2.ext he, h3, h4⟩
def CellsG (w : World) (a : Option Addr) (l : List Gt) : Prop :=
  ∀ i, i < l.length → ∃ b off v, a = some ⟨b, off, none⟩ ∧ w.cell? ⟨b, off + i * 3, none⟩ = some (.int .i64 (l.getD i gt0).kind) ∧ w.cell? ⟨b, off + i * 3 + 1, none⟩ = some (.int .i64 (l.getD i gt0).need) ∧ w.cell? ⟨b, off + i * 3 + 2, none⟩ = some v ∧ SliceI w v (l.getD i gt0).args
theorem CellsG.ext {w w' : World} {a : Option Addr} {l : List Gt} (h : CellsG w a l) (he : Ext w w') : CellsG w' a l := fun i hi => by
  obtain ⟨b, off, v, h1, h2, h3, h4, h5⟩ := h i hi
  exact ⟨b, off, v, h1, he.cell h2, he.cell h3, he.cell h4, h5.ext he⟩
def treeV (t : Tr) (a : Option Addr) (cap : Nat) : Value := .agg #[.int .i64 t.ev, .slice a t.gates.length cap]
structure TreeG (w : World) (t : Tr) (a : Option Addr) (cap : Nat) : Prop where
  cells : CellsG w a t.gates
  len : t.gates.length ≤ cap
  cap : cap ≤ maxLen
theorem TreeG.ext {w w' : World} {t : Tr} {a : Option Addr} {cap : Nat} (h : TreeG w t a cap) (he : Ext w w') : TreeG w' t a cap := ⟨h.cells.ext he, h.len, h.cap⟩
def CellsII (w : World) (a : Option Addr) (l : List (List Int)) : Prop :=
  ∀ i, i < l.length → ∃ b off v, a = some ⟨b, off, none⟩ ∧ w.cell? ⟨b, off + i, none⟩ = some v ∧ SliceI w v (l.getD i [])
theorem CellsII.ext {w w' : World} {a : Option Addr} {l : List (List Int)} (h : CellsII w a l) (he : Ext w w') : CellsII w' a l := fun i hi => by
  obtain ⟨b, off, v, h1, h2, h3⟩ := h i hi
  exact ⟨b, off, v, h1, he.cell h2, h3.ext he⟩
end Go.Proofs.YtlhpfhnbeagnaaaGreatDoor
namespace Go.Proofs.YtlhpfhnbeagnaaaGreatDoor
open Go.RowKit
def AnyPost (b : Bool) (w : World) (e : Ending) (w' : World) : Prop := ∃ r : Int, e = .returned (.int .i64 r) ∧ decide (0 ≤ r) = b ∧ Ext w w'
set_option maxHeartbeats 1000000 in
theorem IndexI_any (l : List Int) (n : Nat) (x : Int) (a : Option Addr) (cap : Nat) (w : World) (hn : n = l.length) (hl : n ≤ maxLen) (hc : CellsI w a l) :
    Calls Tryz.prog 75 #[.slice a n cap, .int .i64 x] w (AnyPost (decide (x ∈ l)) w) := by
  unfold maxLen at hl
  have HC := Lib.hid hc
  have HN := Lib.hid hn
  clear hc hn
  go_enter Tryz.func75, Tryz.ntmps75
  go_wp2
  go_loop [8] (fun i => ∃ k : Nat, k ≤ n ∧ i = .int .i64 k ∧ Hid (∀ j : Nat, j < k → l.getD j 0 ≠ x)) (fun i => n - (intOf i).toNat)
  case atStart => exact ⟨0, Nat.zero_le _, rfl, fun j hj => by omega⟩
  case round =>
    obtain ⟨k, hk, rfl, hnn⟩ := hrel
    by_cases hlt : k < n
    · obtain ⟨b, off, rfl, c1⟩ := HC.out k (by rw [← HN.out]; exact hlt)
      by_cases hx : l.getD k 0 = x
      · have HB : Hid (decide (x ∈ l) = true) := by
          show _ = _
          rw [decide_eq_true_eq, ← hx]
          exact getD_mem (by rw [← HN.out]; exact hlt)
        rw [hx] at c1
        have hxx : (x == x) = true := by simp
        clear hx
        go_wp2
        go_ret
        exact ⟨(k : Int), rfl, by rw [HB.out]; simp, Ext.refl _⟩
      · have HX := Lib.hid hx
        have hx' : (x == l.getD k 0) = false := by simp; exact fun h => hx h.symm
        clear hx
        generalize hy : l.getD k 0 = y at c1 HX hx'
        have HY := Lib.hid hy
        clear hy
        go_wp2
        refine ⟨⟨k + 1, by omega, by go_num, fun j hj => ?_⟩, by simp [intOf]; omega⟩
        rcases Nat.lt_or_eq_of_le (Nat.le_of_lt_succ hj) with h | rfl
        · exact hnn.out j h
        · rw [HY.out]; exact HX.out
    · have HB : Hid (decide (x ∈ l) = false) := by
        show _ = _
        rw [decide_eq_false_iff_not]
        intro hm
        obtain ⟨j, hj, e⟩ := List.mem_iff_getElem.1 hm
        refine hnn.out j (by have := HN.out; omega) ?_
        rw [List.getD_eq_getElem?_getD, List.getElem?_eq_getElem hj, e]; rfl
      go_wp2
      go_ret
      exact ⟨-1, rfl, by rw [HB.out]; simp, Ext.refl _⟩
theorem ContainsI_any (l : List Int) (n : Nat) (x : Int) (a : Option Addr) (cap : Nat) (w : World) (hn : n = l.length) (hl : n ≤ maxLen) (hc : CellsI w a l) :
    Calls Tryz.prog 38 #[.slice a n cap, .int .i64 x] w fun e w' => e = .returned (.bool (decide (x ∈ l))) ∧ Ext w w' := by
  obtain ⟨q, hq⟩ : ∃ q, decide (x ∈ l) = q := ⟨_, rfl⟩
  rw [hq]
  have HQ := Lib.hid hq
  clear hq
  have HC := Lib.hid hc
  have HN := Lib.hid hn
  have HL := Lib.hid hl
  clear hc hl hn
  go_enter Tryz.func38, Tryz.ntmps38
  go_wp2_with fail
  refine (IndexI_any l n x a cap _ HN.out HL.out HC.out).mono ?_
  rintro e w1 ⟨r, rfl, hr, hE⟩
  have HR := Lib.hid hr
  clear hr
  go_wp2
  all_goals go_ret
  all_goals exact ⟨ret_bool (HR.out.trans HQ.out), hE⟩
end Go.Proofs.YtlhpfhnbeagnaaaGreatDoor
namespace Go.Proofs.YtlhpfhnbeagnaaaGreatDoor
open Go.RowKit
theorem gateE_kind {g : Gt} {b : Int} (h : g.kind < 0 ∨ 3 ≤ g.kind) : gateE g b = 1 := by unfold gateE; rw [if_pos h]
theorem gateE_none {g : Gt} {b : Int} (h1 : ¬ g.kind < 0) (h2 : ¬ 3 ≤ g.kind) (h : g.args.length = 0) : gateE g b = 13 := by unfold gateE; rw [if_neg (by omega), if_pos h]
theorem gateE_many {g : Gt} {b : Int} (h1 : ¬ g.kind < 0) (h2 : ¬ 3 ≤ g.kind) (h3 : g.args.length ≠ 0) (h : 64 < g.args.length) : gateE g b = 5 := by unfold gateE; rw [if_neg (by omega), if_neg h3, if_pos h]
theorem gateE_args {g : Gt} {b : Int} (h1 : ¬ g.kind < 0) (h2 : ¬ 3 ≤ g.kind) (h3 : g.args.length ≠ 0) (h : ¬ 64 < g.args.length) : gateE g b = if argsE b [] g.args ≠ 0 then argsE b [] g.args else needE g := by unfold gateE; rw [if_neg (by omega), if_neg h3, if_neg h]
theorem CellsI.take {w : World} {a : Option Addr} {l : List Int} (h : CellsI w a l) {k : Nat} (hk : k ≤ l.length) : CellsI w a (l.take k) := fun i hi => by
  rw [List.length_take] at hi
  obtain ⟨b, off, h1, h2⟩ := h i (by omega)
  refine ⟨b, off, h1, ?_⟩
  rw [h2, List.getD_eq_getElem?_getD, List.getD_eq_getElem?_getD, List.getElem?_take_of_lt (by omega)]
theorem gateE_last {g : Gt} {b r : Int} (h : ((if argsE b [] g.args ≠ 0 then argsE b [] g.args else needE g : Nat) : Int) = r) {k : Nat} (hk : k = g.args.length) (hz : argsE b (g.args.take k) (g.args.drop k) = argsE b [] g.args) : ((needE g : Nat) : Int) = r := by
  subst hk
  rw [argsE_end] at hz
  rw [← hz] at h
  exact h
theorem gateE_now {g : Gt} {b r : Int} (h : ((if argsE b [] g.args ≠ 0 then argsE b [] g.args else needE g : Nat) : Int) = r) {k : Nat} (hk : k < g.args.length) (hz : argsE b (g.args.take k) (g.args.drop k) = argsE b [] g.args) :
    (g.args.getD k 0 < 0 ∨ b ≤ g.args.getD k 0 → r = 9) ∧ (¬ g.args.getD k 0 < 0 → ¬ b ≤ g.args.getD k 0 → g.args.getD k 0 ∈ g.args.take k → r = 7) ∧ (¬ g.args.getD k 0 < 0 → ¬ b ≤ g.args.getD k 0 → ¬ g.args.getD k 0 ∈ g.args.take k → argsE b (g.args.take (k + 1)) (g.args.drop (k + 1)) = argsE b [] g.args) := by
  rw [argsE_at hk] at hz
  refine ⟨fun h1 => ?_, fun h1 h2 h3 => ?_, fun h1 h2 h3 => ?_⟩
  · rw [if_pos h1] at hz
    rw [← hz] at h
    exact h.symm
  · rw [if_neg (by omega), if_pos h3] at hz
    rw [← hz] at h
    exact h.symm
  · rw [if_neg (by omega), if_neg h3] at hz
    exact hz
theorem needE_low {g : Gt} (h : g.kind = 2) (h1 : g.need < 1) : needE g = 2 := by unfold needE; rw [if_pos ⟨h, Or.inl h1⟩]
theorem needE_high {g : Gt} (h : g.kind = 2) (h1 : (g.args.length : Int) < g.need) : needE g = 2 := by unfold needE; rw [if_pos ⟨h, Or.inr h1⟩]
theorem needE_ok {g : Gt} (h : g.kind = 2) (h0 : ¬ g.need < 1) (h1 : ¬ (g.args.length : Int) < g.need) : needE g = 0 := by unfold needE; rw [if_neg (by omega), if_neg (by omega)]
theorem needE_form {g : Gt} (h : g.kind ≠ 2) (h1 : g.need ≠ 0) : needE g = 3 := by unfold needE; rw [if_neg (by omega), if_pos ⟨h, h1⟩]
theorem needE_none {g : Gt} (h : g.kind ≠ 2) (h1 : g.need = 0) : needE g = 0 := by unfold needE; rw [if_neg (by omega), if_neg (by omega)]
set_option maxHeartbeats 4000000 in
theorem gate_any {g : Gt} {b : Int} {a : Option Addr} {n cap : Nat} {w : World} (hn : n = g.args.length) (hc : CellsI w a g.args) (hl : n ≤ cap) (hm : cap ≤ maxLen) :
    Calls Tryz.prog 59 #[.agg #[.int .i64 g.kind, .int .i64 g.need, .slice a n cap], .int .i64 b] w fun e w' => e = .returned (.int .i64 (gateE g b)) ∧ Ext w w' := by
  obtain ⟨r, hr⟩ : ∃ r : Int, (gateE g b : Int) = r := ⟨_, rfl⟩
  rw [hr]
  have HA := Lib.hid (fun h1 h2 h3 h => gateE_args (g := g) (b := b) h1 h2 h3 h)
  have HR1 := Lib.hid (fun h => hr.symm.trans (congrArg Nat.cast (gateE_kind (g := g) (b := b) h)))
  have HR2 := Lib.hid (fun h1 h2 h => hr.symm.trans (congrArg Nat.cast (gateE_none (g := g) (b := b) h1 h2 h)))
  have HR3 := Lib.hid (fun h1 h2 h3 h => hr.symm.trans (congrArg Nat.cast (gateE_many (g := g) (b := b) h1 h2 h3 h)))
  have HR := Lib.hid hr
  obtain ⟨kd, hkd⟩ : ∃ x, x = g.kind := ⟨_, rfl⟩
  obtain ⟨nd, hnd⟩ : ∃ x, x = g.need := ⟨_, rfl⟩
  rw [← hkd, ← hnd]
  rw [← hkd] at HA HR1 HR2 HR3
  rw [← hn] at HA HR2 HR3
  have HC := Lib.hid hc
  have HN := Lib.hid hn
  have hb : n ≤ maxLen := by omega
  have HB := Lib.hid hb
  have hb2 : n ≤ 9223372036854775807 := by unfold maxLen at hb; omega
  have HKD := Lib.hid hkd
  have HND := Lib.hid hnd
  clear hr hc hn hm hb hkd hnd
  have E0 : Ext w (w.alloc (.cells #[.int .i64 kd, .int .i64 nd, .slice a n cap] 99)) := (Ext.refl _).alloc _
  have y0 : (w.alloc (.cells #[.int .i64 kd, .int .i64 nd, .slice a n cap] 99)).cell? ⟨w.heap.size, 0, none⟩ = some (.int .i64 kd) := by go_simp
  have y1 : (w.alloc (.cells #[.int .i64 kd, .int .i64 nd, .slice a n cap] 99)).cell? ⟨w.heap.size, 1, none⟩ = some (.int .i64 nd) := by go_simp
  have y2 : (w.alloc (.cells #[.int .i64 kd, .int .i64 nd, .slice a n cap] 99)).cell? ⟨w.heap.size, 2, none⟩ = some (.slice a n cap) := by go_simp
  go_enter Tryz.func59, Tryz.ntmps59
  by_cases h1 : kd < 0
  · have HRX := Lib.hid (HR1.out (.inl h1))
    go_wp2
    go_ret
    exact ⟨ret_int HRX.out.symm, E0⟩
  by_cases h2 : 3 ≤ kd
  · have HRX := Lib.hid (HR1.out (.inr h2))
    go_wp2
    go_ret
    exact ⟨ret_int HRX.out.symm, E0⟩
  by_cases h3 : n = 0
  · have HRX := Lib.hid (HR2.out h1 h2 h3)
    have k1 : ((n : Int) == 0) = true := by simp; omega
    subst h3
    go_wp2
    go_ret
    exact ⟨ret_int HRX.out.symm, E0⟩
  have k1 : ((n : Int) == 0) = false := by simp; omega
  by_cases h4 : 64 < n
  · have HRX := Lib.hid (HR3.out h1 h2 h3 h4)
    have k2 : (64 : Int) < (n : Int) := by omega
    go_wp2
    go_ret
    exact ⟨ret_int HRX.out.symm, E0⟩
  have k2 : ¬ (64 : Int) < (n : Int) := by omega
  have HA2 := Lib.hid (HA.out h1 h2 h3 h4)
  have HT : Hid (((if argsE b [] g.args ≠ 0 then argsE b [] g.args else needE g : Nat) : Int) = r) := by
    show _ = _
    rw [← HR.out, HA2.out]
  clear HA HA2 HR1 HR2 HR3
  go_wp2
  generalize w.alloc (.cells #[.int .i64 kd, .int .i64 nd, .slice a n cap] 99) = W at E0 y0 y1 y2 ⊢
  go_loopw [29] (fun t wr => ∃ k : Nat, k ≤ n ∧ t = .int .i64 k ∧ Hid (argsE b (g.args.take k) (g.args.drop k) = argsE b [] g.args) ∧ Ext W wr) (fun t _ => n - (intOf t).toNat)
  case atStart => exact ⟨0, Nat.zero_le _, rfl, rfl, Ext.refl _⟩
  case round =>
    obtain ⟨k, hkN, rfl, hz, he⟩ := hrel
    have EK := E0.trans he
    by_cases hlt : k < n
    · have hlt' : (k : Int) < (n : Int) := by omega
      obtain ⟨bb, off, rfl, c1⟩ := (HC.out.ext EK) k (by rw [← HN.out]; exact hlt)
      obtain ⟨q1, q2, q3⟩ := gateE_now HT.out (by rw [← HN.out]; exact hlt) hz.out
      have Q1 := Lib.hid q1
      have Q2 := Lib.hid q2
      have Q3 := Lib.hid q3
      have HCT := Lib.hid ((HC.out.ext EK).take (k := k) (by rw [← HN.out]; exact hkN))
      have HLT : Hid (k = (g.args.take k).length) := by
        show _ = _
        have := HN.out
        rw [List.length_take]
        omega
      generalize g.args.getD k 0 = x at c1 Q1 Q2 Q3
      generalize g.args.take k = lk at HCT HLT Q2 Q3
      have d2 := he.cell y2
      have z1 := cell_lt c1
      dsimp only at z1
      clear q1 q2 q3 hz
      by_cases hx : x < 0
      · have HRX := Lib.hid (Q1.out (.inl hx))
        go_wp2
        go_ret
        exact ⟨ret_int HRX.out.symm, EK⟩
      by_cases hx2 : b ≤ x
      · have HRX := Lib.hid (Q1.out (.inr hx2))
        go_wp2
        go_ret
        exact ⟨ret_int HRX.out.symm, EK⟩
      go_wp2_with fail
      refine (ContainsI_any lk k x _ cap _ HLT.out (by have := HB.out; omega) HCT.out).mono ?_
      rintro e w1 ⟨rfl, hE⟩
      cases hmm : decide (x ∈ lk)
      case true =>
        have HRX := Lib.hid (Q2.out hx hx2 (of_decide_eq_true hmm))
        clear hmm
        go_wp2
        go_ret
        exact ⟨ret_int HRX.out.symm, EK.trans hE⟩
      have HG := Lib.hid (Q3.out hx hx2 (of_decide_eq_false hmm))
      clear hmm
      go_wp2
      exact ⟨⟨k + 1, by omega, by go_num, HG.out, he.trans hE⟩, by simp [intOf]; omega⟩
    · have hke : k = n := by omega
      have hlt' : ¬ (k : Int) < (n : Int) := by omega
      have HL := Lib.hid (gateE_last HT.out (by rw [← HN.out]; exact hke) hz.out)
      clear hz
      have d0 := he.cell y0
      have d1 := he.cell y1
      have d2 := he.cell y2
      have hlen : (g.args.length : Int) = n := by have := HN.out; omega
      by_cases hk : kd = 2
      · have k3 : (kd == 2) = true := by simp [hk]
        have k4 : (kd != 2) = false := by simp [hk]
        have hkk := HKD.out.symm.trans hk
        by_cases hn1 : nd < 1
        · have HRX : Hid (2 = r) := by show _ = _; rw [← HL.out, needE_low hkk (by rw [← HND.out]; exact hn1)]; rfl
          clear hkk hlen hk
          go_wp2
          go_ret
          exact ⟨ret_int HRX.out, EK⟩
        by_cases hn2 : (n : Int) < nd
        · have HRX : Hid (2 = r) := by show _ = _; rw [← HL.out, needE_high hkk (by rw [← HND.out, hlen]; exact hn2)]; rfl
          clear hkk hlen hk
          go_wp2
          go_ret
          exact ⟨ret_int HRX.out, EK⟩
        have HRX : Hid (0 = r) := by show _ = _; rw [← HL.out, needE_ok hkk (by rw [← HND.out]; exact hn1) (by rw [← HND.out, hlen]; exact hn2)]; rfl
        clear hkk hlen hk
        go_wp2
        go_ret
        exact ⟨ret_int HRX.out, EK⟩
      · have k3 : (kd == 2) = false := by simp [hk]
        have k4 : (kd != 2) = true := by simp [hk]
        have hkk : g.kind ≠ 2 := by rw [← HKD.out]; exact hk
        by_cases hn1 : nd = 0
        · have k5 : (nd != 0) = false := by simp [hn1]
          have HRX : Hid (0 = r) := by show _ = _; rw [← HL.out, needE_none hkk (by rw [← HND.out]; exact hn1)]; rfl
          clear hkk hlen hn1
          go_wp2
          go_ret
          exact ⟨ret_int HRX.out, EK⟩
        · have k5 : (nd != 0) = true := by simp [hn1]
          have HRX : Hid (3 = r) := by show _ = _; rw [← HL.out, needE_form hkk (by rw [← HND.out]; exact hn1)]; rfl
          clear hkk hlen hn1
          go_wp2
          go_ret
          exact ⟨ret_int HRX.out, EK⟩
end Go.Proofs.YtlhpfhnbeagnaaaGreatDoor
namespace Go.Proofs.YtlhpfhnbeagnaaaGreatDoor
open Go.RowKit
theorem gatesE_now {b r : Int} {l : List Gt} {k : Nat} (hk : k < l.length) (hz : gatesE (b + k) (l.drop k) = gatesE b l) (h : ((gatesE b l : Nat) : Int) = r) :
    (gateE (l.getD k gt0) (b + k) ≠ 0 → ((gateE (l.getD k gt0) (b + k) : Nat) : Int) = r) ∧ (gateE (l.getD k gt0) (b + k) = 0 → gatesE (b + (k + 1 : Nat)) (l.drop (k + 1)) = gatesE b l) := by
  rw [gatesE_at hk] at hz
  refine ⟨fun h1 => ?_, fun h1 => ?_⟩
  · rw [if_pos h1] at hz
    rw [← h, hz]
  · rw [if_neg (not_not_intro h1)] at hz
    exact hz
theorem treeE_a {t : Tr} (h : t.ev < 1 ∨ 16 < t.ev) : treeE t = 2 := by unfold treeE; rw [if_pos h]
theorem treeE_b {t : Tr} (h0 : ¬ t.ev < 1) (h1 : ¬ 16 < t.ev) (h : t.gates.length = 0) : treeE t = 13 := by unfold treeE; rw [if_neg (by omega), if_pos h]
theorem treeE_c {t : Tr} (h0 : ¬ t.ev < 1) (h1 : ¬ 16 < t.ev) (h2 : t.gates.length ≠ 0) (h : 64 < t.gates.length) : treeE t = 5 := by unfold treeE; rw [if_neg (by omega), if_neg h2, if_pos h]
theorem treeE_d {t : Tr} (h0 : ¬ t.ev < 1) (h1 : ¬ 16 < t.ev) (h2 : t.gates.length ≠ 0) (h : ¬ 64 < t.gates.length) : treeE t = gatesE t.ev t.gates := by unfold treeE; rw [if_neg (by omega), if_neg h2, if_neg h]
set_option maxHeartbeats 4000000 in
theorem cCheck_any {t : Tr} {a : Option Addr} {cap : Nat} {w : World} (ht : TreeG w t a cap) :
    Calls Tryz.prog 15 #[treeV t a cap] w fun e w' => e = .returned (.int .i64 (treeE t)) ∧ Ext w w' := by
  unfold treeV
  obtain ⟨r, hr⟩ : ∃ r : Int, (treeE t : Int) = r := ⟨_, rfl⟩
  rw [hr]
  have HR1 := Lib.hid (fun h => hr.symm.trans (congrArg Nat.cast (treeE_a (t := t) h)))
  have HR2 := Lib.hid (fun h1 h2 h => hr.symm.trans (congrArg Nat.cast (treeE_b (t := t) h1 h2 h)))
  have HR3 := Lib.hid (fun h1 h2 h3 h => hr.symm.trans (congrArg Nat.cast (treeE_c (t := t) h1 h2 h3 h)))
  have HR4 := Lib.hid (fun h1 h2 h3 h => (congrArg Nat.cast (treeE_d (t := t) h1 h2 h3 h)).symm.trans hr)
  obtain ⟨ev, hev⟩ : ∃ x, x = t.ev := ⟨_, rfl⟩
  obtain ⟨n, hn⟩ : ∃ x, x = t.gates.length := ⟨_, rfl⟩
  rw [← hev, ← hn]
  rw [← hev] at HR1 HR2 HR3 HR4
  rw [← hn] at HR2 HR3 HR4
  have HC := Lib.hid ht.cells
  have hb : n ≤ maxLen := by have := ht.len; have := ht.cap; omega
  have hb2 : n ≤ 9223372036854775807 := by unfold maxLen at hb; omega
  have HN := Lib.hid hn
  clear hr hn ht hb hev
  have E0 : Ext w (w.alloc (.cells #[.int .i64 ev, .slice a n cap] 24)) := (Ext.refl _).alloc _
  have y0 : (w.alloc (.cells #[.int .i64 ev, .slice a n cap] 24)).cell? ⟨w.heap.size, 0, none⟩ = some (.int .i64 ev) := by go_simp
  have y1 : (w.alloc (.cells #[.int .i64 ev, .slice a n cap] 24)).cell? ⟨w.heap.size, 1, none⟩ = some (.slice a n cap) := by go_simp
  go_enter Tryz.func15, Tryz.ntmps15
  by_cases h1 : ev < 1
  · have HRX := Lib.hid (HR1.out (.inl h1))
    go_wp2
    go_ret
    exact ⟨ret_int HRX.out.symm, E0⟩
  by_cases h2 : 16 < ev
  · have HRX := Lib.hid (HR1.out (.inr h2))
    go_wp2
    go_ret
    exact ⟨ret_int HRX.out.symm, E0⟩
  by_cases h3 : n = 0
  · have HRX := Lib.hid (HR2.out h1 h2 h3)
    have k1 : ((n : Int) == 0) = true := by simp; omega
    subst h3
    go_wp2
    go_ret
    exact ⟨ret_int HRX.out.symm, E0⟩
  have k1 : ((n : Int) == 0) = false := by simp; omega
  by_cases h4 : 64 < n
  · have HRX := Lib.hid (HR3.out h1 h2 h3 h4)
    have k2 : (64 : Int) < (n : Int) := by omega
    go_wp2
    go_ret
    exact ⟨ret_int HRX.out.symm, E0⟩
  have k2 : ¬ (64 : Int) < (n : Int) := by omega
  have HT := Lib.hid (HR4.out h1 h2 h3 h4)
  clear HR1 HR2 HR3 HR4
  go_wp2
  generalize w.alloc (.cells #[.int .i64 ev, .slice a n cap] 24) = W at E0 y0 y1 ⊢
  go_loopw [28] (fun t' wr => ∃ k : Nat, k ≤ n ∧ t' = .int .i64 k ∧ Hid (gatesE (ev + k) (t.gates.drop k) = gatesE ev t.gates) ∧ Ext W wr) (fun t _ => n - (intOf t).toNat)
  case atStart => exact ⟨0, Nat.zero_le _, rfl, by show gatesE (ev + ((0 : Nat) : Int)) _ = _; rw [show ev + ((0 : Nat) : Int) = ev by omega]; rfl, Ext.refl _⟩
  case round =>
    obtain ⟨k, hkN, rfl, hz, he⟩ := hrel
    have EK := E0.trans he
    by_cases hlt : k < n
    · have hlt' : (k : Int) < (n : Int) := by omega
      obtain ⟨bb, off, v, rfl, c0, c1, c2, c3⟩ := (HC.out.ext EK) k (by rw [← HN.out]; exact hlt)
      obtain ⟨ai, ci, rfl, c4, c5, c6⟩ := c3
      obtain ⟨q1, q2⟩ := gatesE_now (by rw [← HN.out]; exact hlt) hz.out HT.out
      have Q1 := Lib.hid q1
      have Q2 := Lib.hid q2
      generalize t.gates.getD k gt0 = g at c0 c1 c2 c4 c5 Q1 Q2
      obtain ⟨m, hm⟩ : ∃ m, m = g.args.length := ⟨_, rfl⟩
      rw [← hm] at c2 c5
      have HM := Lib.hid hm
      have HC4 := Lib.hid c4
      have HC5 := Lib.hid c5
      have HC6 := Lib.hid c6
      have d0 := he.cell y0
      have d1 := he.cell y1
      have z1 := cell_lt c0
      dsimp only at z1
      have z2 := cell_lt d0
      dsimp only at z2
      have hw : IntKind.i64.wrap (ev + (k : Int)) = ev + (k : Int) := IntWalk.i64_in _ (by omega)
      clear q1 q2 hz hm c4 c5 c6
      go_wp2_with fail
      refine (gate_any (g := g) (b := ev + k) (n := m) HM.out (HC4.out.ext ((Ext.refl _).alloc _)) HC5.out HC6.out).mono ?_
      rintro e w1 ⟨rfl, hE⟩
      have E2 := (he.alloc _).trans hE
      by_cases h0 : gateE g (ev + k) = 0
      · have HG := Lib.hid (Q2.out h0)
        have k5 : ((((gateE g (ev + k) : Nat) : Int)) != 0) = false := by rw [h0]; rfl
        clear h0 Q1 Q2
        generalize ((gateE g (ev + k) : Nat) : Int) = e at k5
        go_wp2
        exact ⟨⟨k + 1, by omega, by go_num, HG.out, E2⟩, by simp [intOf]; omega⟩
      · have HRX := Lib.hid (Q1.out h0)
        have k5 : ((((gateE g (ev + k) : Nat) : Int)) != 0) = true := by rw [bne_iff_ne]; omega
        clear h0 Q1 Q2
        generalize ((gateE g (ev + k) : Nat) : Int) = e at k5 HRX
        go_wp2
        go_ret
        exact ⟨ret_int HRX.out, E0.trans E2⟩
    · have hke : k = n := by omega
      have hlt' : ¬ (k : Int) < (n : Int) := by omega
      have HRX : Hid (0 = r) := by
        show _ = _
        rw [← HT.out, ← hz.out, hke, HN.out, List.drop_length]
        rfl
      clear hz
      go_wp2
      go_ret
      exact ⟨ret_int HRX.out, EK⟩
end Go.Proofs.YtlhpfhnbeagnaaaGreatDoor
namespace Go.Proofs.YtlhpfhnbeagnaaaGreatDoor
open Go Go.RowKit
variable {P : Program} {md : Region.Mode} {ops : Array Oper} {Q : Exit → Act → World → Prop} {S : World → Prop} {f : Nat}
def wpAnyE (P : Program) (md : Region.Mode) (ops : Array Oper) (Q : Exit → Act → World → Prop) (S : World → Prop) (f : Nat) : Nat → Array Bool → Act → World → Prop
  | 0, listed, a, w => Region.ready md ops listed = [] ∧ Q .normal a w
  | fuel + 1, listed, a, w =>
    (Region.ready md ops listed = [] → Q .normal a w) ∧
    ∀ i ∈ Region.ready md ops listed, wpOp P ops Q i (fun a' w' => ((listed.setIfInBounds i true).getD f false = false → S w') ∧ wpAnyE P md ops Q S f fuel (listed.setIfInBounds i true) a' w') a w
theorem wpAny_of_heldE : ∀ (fuel : Nat) (listed : Array Bool) (a : Act) (w : World), wpAnyE P md ops Q S f fuel listed a w → wpAny P md ops Q fuel listed a w
  | 0, _, _, _, h => h
  | fuel + 1, _, _, _, h => ⟨h.1, fun i hi => wpOp_mono (fun a' w' h' => wpAny_of_heldE fuel _ a' w' h'.2) (h.2 i hi)⟩
def waitsFor (md : Region.Mode) (ops : Array Oper) (f i : Nat) : Bool := match ops[f]? with
  | some o => o.after.any fun e => Region.binds md e && e.on == i
  | none => true
theorem pend_set {listed : Array Bool} {f i : Nat} (h : f ≠ i) : (listed.setIfInBounds i true).getD f false = listed.getD f false := getD_set_ne false (Ne.symm h)
theorem wpAnyE_first (b : Bool) {i : Nat} {oi : Oper} {v : Value} (hi : ops[i]? = some oi) (hif : f ≠ i) (hsel : ∀ (j : Nat) (o : Oper) cs b, ops[j]? = some o → o.op ≠ .select cs b)
    (hQ : ∀ c a w, Q (.panic c) (a.put oi.dst v) w → Q (.panic c) a w) (hfi : b = true → waitsFor md ops f i = true) :
    ∀ (fuel : Nat) (listed : Array Bool) (a : Act) (w : World),
      (∀ j oj, ops[j]? = some oj → j ≠ i → listed.getD j true = false → (∀ e ∈ oj.after, Region.binds md e = true → e.on ≠ i) → oi.apart ops oj = true) →
      i ∈ Region.ready md ops listed → YieldsIf P ops (fun w => b = true → S w) oi v a → (b = true → listed.getD f false = false) → (listed.getD f false = false → S w) →
      wpAnyE P md ops Q S f fuel (listed.setIfInBounds i true) (a.put oi.dst v) w → wpAnyE P md ops Q S f (fuel + 1) listed a w := by
  intro fuel
  induction fuel with
  | zero =>
    intro listed a w _ hr hy hb hS H
    refine ⟨fun h => (by rw [h] at hr; cases hr), fun j hj => ?_⟩
    by_cases hji : j = i
    · subst hji; exact hy.wpOp hi (fun h => hS (hb h)) ⟨fun h => hS (by rw [pend_set hif] at h; exact h), H⟩
    · have := ready_mono hj hji
      rw [H.1] at this
      cases this
  | succ fuel ih =>
    intro listed a w hfree hr hy hb hS H
    refine ⟨fun h => (by rw [h] at hr; cases hr), fun j hj => ?_⟩
    by_cases hji : j = i
    · subst hji; exact hy.wpOp hi (fun h => hS (hb h)) ⟨fun h => hS (by rw [pend_set hif] at h; exact h), H⟩
    · have h1 := H.2 j (ready_mono hj hji)
      obtain ⟨hjun, oj, hoj, hall⟩ := mem_ready.1 hj
      have hnot : ∀ e ∈ oj.after, Region.binds md e = true → e.on ≠ i := fun e he hb heq => by
        have h1 := hall e he hb
        have h0 := (mem_ready.1 hr).1
        rw [heq] at h1
        rcases Nat.lt_or_ge i listed.size with h' | h'
        · simp [h'] at h0 h1; rw [h0] at h1; cases h1
        · simp [Array.getElem?_eq_none h'] at h1
      have hjf : b = true → f ≠ j := fun hbt hf => by
        subst hf
        have hfi := hfi hbt
        unfold waitsFor at hfi
        rw [hoj] at hfi
        obtain ⟨e, he, h2⟩ := Array.any_eq_true'.1 hfi
        simp only [Bool.and_eq_true, beq_iff_eq] at h2
        exact hnot e he h2.1 h2.2
      have h2 := wpOp_putIf hoj (hfree j oj hoj hji hjun hnot) (fun cs b => hsel i oi cs b hi) (fun cs b => hsel j oj cs b hoj) hQ hy h1
      have hfree' : ∀ k ok, ops[k]? = some ok → k ≠ i → (listed.setIfInBounds j true).getD k true = false →
          (∀ e ∈ ok.after, Region.binds md e = true → e.on ≠ i) → oi.apart ops ok = true := fun k ok hk hki hun hno => by
        refine hfree k ok hk hki ?_ hno
        by_cases hjk : j = k
        · subst hjk; exact hjun
        · rw [getD_set_ne true hjk] at hun; exact hun
      refine wpOp_mono (fun a' w' h3 => ?_) h2
      have hc : (listed.setIfInBounds j true).getD f false = false → S w' := fun h => h3.2.1 (by rw [Array.setIfInBounds_comm _ _ (Ne.symm hji), pend_set hif]; exact h)
      refine ⟨hc, ih (listed.setIfInBounds j true) a' w' hfree' (ready_mono hr (Ne.symm hji)) h3.1 (fun h => by rw [pend_set (hjf h)]; exact hb h) hc ?_⟩
      rw [Array.setIfInBounds_comm _ _ hji]
      exact h3.2.2
theorem wpAnyE_take {i : Nat} {oi : Oper} {v : Value} {fuel : Nat} {listed : Array Bool} {a : Act} {w : World} (hi : ops[i]? = some oi)
    (hs : (Region.noSelect ops && Region.free md ops listed i && (Region.ready md ops listed).contains i && waitsFor md ops f i && (f != i) && !listed.getD f false) = true)
    (hQ : ∀ c a w, Q (.panic c) (a.put oi.dst v) w → Q (.panic c) a w) (hy : YieldsIf P ops S oi v a) (hS : S w)
    (h : wpAnyE P md ops Q S f fuel (listed.setIfInBounds i true) (a.put oi.dst v) w) : wpAnyE P md ops Q S f (fuel + 1) listed a w := by
  simp only [Bool.and_eq_true, bne_iff_ne, Bool.not_eq_true'] at hs
  refine wpAnyE_first true hi hs.1.2 (Region.noSelect_spec hs.1.1.1.1.1) hQ (fun _ => hs.1.1.2) fuel listed a w (Region.free_spec hi hs.1.1.1.1.2) (by simpa using hs.1.1.1.2) ?_ (fun _ => hs.2) (fun _ => hS) h
  rcases hy with ⟨h1, h2⟩ | h1
  · exact .inl ⟨h1, fun w hw => h2 w (hw rfl)⟩
  · exact .inr h1
theorem wpAnyE_pure {i : Nat} {oi : Oper} {v : Value} {fuel : Nat} {listed : Array Bool} {a : Act} {w : World} (hi : ops[i]? = some oi)
    (hs : (Region.noSelect ops && Region.free md ops listed i && (Region.ready md ops listed).contains i && (f != i)) = true)
    (hQ : ∀ c a w, Q (.panic c) (a.put oi.dst v) w → Q (.panic c) a w) (hy : YieldsIf P ops (fun _ => True) oi v a) (hS : listed.getD f false = false → S w)
    (h : wpAnyE P md ops Q S f fuel (listed.setIfInBounds i true) (a.put oi.dst v) w) : wpAnyE P md ops Q S f (fuel + 1) listed a w := by
  simp only [Bool.and_eq_true, bne_iff_ne] at hs
  refine wpAnyE_first false hi hs.2 (Region.noSelect_spec hs.1.1.1) hQ (fun h => by cases h) fuel listed a w (Region.free_spec hi hs.1.1.2) (by simpa using hs.1.2) ?_ (fun h => by cases h) hS h
  rcases hy with ⟨h1, h2⟩ | h1
  · exact .inl ⟨h1, fun w _ => h2 w trivial⟩
  · exact .inr h1
theorem wpAnyE_one {i : Nat} {o : Oper} {fuel : Nat} {listed : Array Bool} {a : Act} {w : World} (ho : ops[i]? = some o) (hr : Region.ready md ops listed = [i])
    (h : ∀ K' : Act → World → Prop, Shut (∀ a w, S w → (S w → wpAnyE P md ops Q S f fuel (listed.setIfInBounds i true) a w) → K' a w) → if Region.wanted o (yielded ops a.tmps) = true then Oper.wp P o a w K' Q else K' (a.put o.dst undef) w) :
    wpAnyE P md ops Q S f (fuel + 1) listed a w := by
  refine ⟨fun h0 => (by rw [hr] at h0; cases h0), fun j hj => ?_⟩
  rw [hr] at hj
  rcases List.mem_singleton.1 hj with rfl
  exact wpOp_step ho (fun K' hK => h K' (fun a w hS hW => hK a w ⟨fun _ => hS, hW hS⟩))
theorem wpAnyE_two {i j : Nat} {o p : Oper} {fuel : Nat} {listed : Array Bool} {a : Act} {w : World} (ho : ops[i]? = some o) (hp : ops[j]? = some p) (hr : Region.ready md ops listed = [i, j])
    (h : ∀ K' : Act → World → Prop, Shut (∀ a w, S w → (S w → wpAnyE P md ops Q S f fuel (listed.setIfInBounds i true) a w) → K' a w) → if Region.wanted o (yielded ops a.tmps) = true then Oper.wp P o a w K' Q else K' (a.put o.dst undef) w)
    (h2 : ∀ K' : Act → World → Prop, Shut (∀ a w, S w → (S w → wpAnyE P md ops Q S f fuel (listed.setIfInBounds j true) a w) → K' a w) → if Region.wanted p (yielded ops a.tmps) = true then Oper.wp P p a w K' Q else K' (a.put p.dst undef) w) :
    wpAnyE P md ops Q S f (fuel + 1) listed a w := by
  refine ⟨fun h0 => (by rw [hr] at h0; cases h0), fun k hk => ?_⟩
  rw [hr] at hk
  rcases List.mem_cons.1 hk with rfl | hk
  · exact wpOp_step ho (fun K' hK => h K' (fun a w hS hW => hK a w ⟨fun _ => hS, hW hS⟩))
  · rcases List.mem_singleton.1 hk with rfl
    exact wpOp_step hp (fun K' hK => h2 K' (fun a w hS hW => hK a w ⟨fun _ => hS, hW hS⟩))
theorem wpAnyE_free {i : Nat} {o : Oper} {fuel : Nat} {listed : Array Bool} {a : Act} {w : World} (ho : ops[i]? = some o) (hr : Region.ready md ops listed = [i]) (hl : (listed.setIfInBounds i true).getD f false = true)
    (h : ∀ K' : Act → World → Prop, Shut (∀ a w, wpAnyE P md ops Q S f fuel (listed.setIfInBounds i true) a w → K' a w) → if Region.wanted o (yielded ops a.tmps) = true then Oper.wp P o a w K' Q else K' (a.put o.dst undef) w) :
    wpAnyE P md ops Q S f (fuel + 1) listed a w := by
  refine ⟨fun h0 => (by rw [hr] at h0; cases h0), fun j hj => ?_⟩
  rw [hr] at hj
  rcases List.mem_singleton.1 hj with rfl
  exact wpOp_step ho (fun K' hK => h K' (fun a w hW => hK a w ⟨fun h => (by rw [hl] at h; cases h), hW⟩))
theorem wpAnyE_done {listed : Array Bool} {a : Act} {w : World} (hr : Region.ready md ops listed = []) (h : Q .normal a w) :
    ∀ fuel, wpAnyE P md ops Q S f fuel listed a w
  | 0 => ⟨hr, h⟩
  | _ + 1 => ⟨fun _ => h, by rw [hr]; simp⟩
theorem wp_region_heldE (f : Nat) (S : World → Prop) {id : Nat} {a : Act} {w : World} (hm : P.follows .mixedOrders = true)
    (h : wpAnyE P .any ops Q S f ops.size (Array.replicate ops.size false) a w.drew) : (Code.region id ops true).wp P Q a w :=
  wp_region_any hm (wpAny_of_heldE _ _ _ _ h)
theorem eTk {P : Program} {md : Region.Mode} {ops : Array Oper} {Q : Exit → Act → World → Prop} {S : World → Prop} {f : Nat} (i : Nat) {oi : Oper} {v : Value} {fuel : Nat} {listed : Array Bool} {a b : Act} {w : World}
    (h : wpAnyE P md ops Q S f fuel (listed.setIfInBounds i true) b w)
    (hi : ops[i]? = some oi := by simp only [List.getElem?_toArray, List.getElem?_cons_succ, List.getElem?_cons_zero]; exact rfl)
    (hs : (Region.noSelect ops && Region.free md ops listed i && (Region.ready md ops listed).contains i && waitsFor md ops f i && (f != i) && !listed.getD f false) = true := by kernel_rfl)
    (hQ : ∀ c a w, Q (.panic c) (a.put oi.dst v) w → Q (.panic c) a w := by exact fun _ _ _ h => h)
    (hy : YieldsIf P ops S oi v a := by refine Or.inl ⟨by rfl, ?_⟩; intro w hSw; (try dsimp only at hSw); (first | (go_simp; done) | (go_simp; with_reducible rfl)))
    (hb : a.put oi.dst v = b := by (try simp only [Act.put, List.setIfInBounds_toArray, List.set_cons_zero, List.set_cons_succ]); exact rfl)
    (hS : S w := by assumption) : wpAnyE P md ops Q S f (fuel + 1) listed a w := by
  subst hb
  exact wpAnyE_take hi hs hQ hy hS h
theorem ePu {P : Program} {md : Region.Mode} {ops : Array Oper} {Q : Exit → Act → World → Prop} {S : World → Prop} {f : Nat} (i : Nat) {oi : Oper} {v : Value} {fuel : Nat} {listed : Array Bool} {a b : Act} {w : World}
    (h : wpAnyE P md ops Q S f fuel (listed.setIfInBounds i true) b w)
    (hi : ops[i]? = some oi := by simp only [List.getElem?_toArray, List.getElem?_cons_succ, List.getElem?_cons_zero]; exact rfl)
    (hs : (Region.noSelect ops && Region.free md ops listed i && (Region.ready md ops listed).contains i && (f != i)) = true := by kernel_rfl)
    (hQ : ∀ c a w, Q (.panic c) (a.put oi.dst v) w → Q (.panic c) a w := by exact fun _ _ _ h => h)
    (hy : YieldsIf P ops (fun _ => True) oi v a := by refine Or.inl ⟨by rfl, ?_⟩; intro w hSw; clear hSw; (first | (go_simp; done) | (go_simp; with_reducible rfl)))
    (hb : a.put oi.dst v = b := by (try simp only [Act.put, List.setIfInBounds_toArray, List.set_cons_zero, List.set_cons_succ]); exact rfl)
    (hS : listed.getD f false = false → S w := by first | exact (fun _ => by assumption) | (intro hlst; exact absurd hlst (by kernel_rfl)) | (intro hlst; cases hlst)) : wpAnyE P md ops Q S f (fuel + 1) listed a w := by
  subst hb
  exact wpAnyE_pure hi hs hQ hy hS h
end Go.Proofs.YtlhpfhnbeagnaaaGreatDoor
namespace Go.Proofs.YtlhpfhnbeagnaaaGreatDoor
open Go.RowKit
theorem infoBl : (Tryz.prog.info? 4).map (fun i => (i.zero, i.size, i.bytes)) = some (some (.bool false), 1, 1) := by kernel_rfl
theorem infoL : (Tryz.prog.info? 25).map (fun i => (i.zero, i.size, i.bytes)) = some (some (.slice none 0 0), 1, 24) := by kernel_rfl
theorem infoFr : (Tryz.prog.info? 44).map (fun i => (i.zero, i.size, i.bytes)) = some (some (.string ByteArray.empty), 1, 16) := by kernel_rfl
theorem wpList_appC {P : Program} (w : World) {ops : Array Oper} {rest : List Oper} {o : Oper} {a : Act} {Q : Exit → Act → World → Prop} (hgd : o.guard = none) (s x : Operand) (t : TypeId)
    (ho : o.op = .call { callee := .builtin .append, args := #[s, x], argTypes := #[t, t] }) (v y : Value) (hs : a.eval s = v) (hx : a.eval x = y)
    (v' : Value) (w' : World) (hr : (Builtin.append_ #[t, t] o.type #[v, y]).run P w = .ok v' w') (h : wpList P ops Q rest (a.put o.dst v') w') : wpList P ops Q (o :: rest) a w := by
  refine wpList_plain hgd fun K hK => ?_
  unfold Oper.wp execOp
  simp only [ho, resolve, invoke, builtin, Sem.run_bind, Sem.run_pure, Result.andThen_ok, List.map_toArray, List.map_cons, List.map_nil, hs, hx, hr]
  exact hK _ _ h
structure App1 (m : Nat) (w w' : World) (v v' : Value) : Prop where
  ge : ∀ b, v'.ownBlock = some b → m ≤ b
  below : Below m w w'
  kept : ∀ k, k < w.heap.size → v.ownBlock ≠ some k → w'.heap[k]? = w.heap[k]?
  size : w.heap.size ≤ w'.heap.size
  own : ∀ b, v'.ownBlock = some b → v.ownBlock = some b ∨ w.heap.size ≤ b
theorem App1.cell {m : Nat} {w w' : World} {v v' : Value} (h : App1 m w w' v v') {p : Addr} {u : Value} (hp : v.ownBlock ≠ some p.block) (hc : w.cell? p = some u) : w'.cell? p = some u := by
  have hk := h.kept p.block (cell_lt hc) hp
  rw [← hc]
  unfold World.cell?
  rw [hk]
theorem row_app {P : Program} {T S : TypeId} {z : Value} {by' : Nat} (hS : P.underlying S = some (.slice T)) (hT : (P.info? T).map (fun i => (i.zero, i.size, i.bytes)) = some (some z, 1, by')) (hz : z.cells.size = 1) (hby : by' ≤ 24)
    {w : World} {v : Value} {n : Nat} {xs : List Value} (h : w.ownsRow 0 T 1 v n xs) {x : Value} (hx : x.oneCell' = true) {g : Nat} (c : Nat) (hc : w.cell? ⟨g, 0, none⟩ = some x) (hl : n ≤ 100000) {m : Nat} (hm : m ≤ w.heap.size) (hv : ∀ b, v.ownBlock = some b → m ≤ b) :
    ∃ v' w', (Builtin.append_ #[S, S] S #[v, .slice (some ⟨g, 0, none⟩) 1 c]).run P w = .ok v' w' ∧ w'.ownsRow 0 T 1 v' (n + 1) (xs ++ [x]) ∧ App1 m w w' v v' := by
  obtain ⟨i0, hi, hi0, hi1, hi2⟩ := info_parts hT
  obtain ⟨v', w', hr, h2, he⟩ := run_append1 (P := P) w S S T i0 z 1 by' hS hi hi0 hi1 hi2 hz (by decide) v n xs h ⟨g, 0, none⟩ 1 c (by decide) [x] rfl (fun j u hj => by
    match j, hj with
    | 0, hj => simp at hj; subst hj; rw [Addr.add_lit, Nat.zero_add]; exact hc) (by intro u hu; simp at hu; subst hu; exact hx) (by unfold maxLen; omega) (by have := Nat.mul_le_mul_left (n + 1) hby; omega)
  exact ⟨v', w', hr, h2, ⟨he.ge hm hv, he.below hm hv, he.chg.1, he.chg.2.1, he.chg.2.2⟩⟩
def OwnsBl (w : World) (v : Value) (l : List Bool) : Prop := w.ownsRow 0 4 1 v l.length (l.map Value.bool)
theorem OwnsBl.ext {A B : World} {v : Value} {l : List Bool} (h : OwnsBl A v l) (e : Ext A B) : OwnsBl B v l := rowExt h e
theorem OwnsBl.lt {A : World} {v : Value} {l : List Bool} (h : OwnsBl A v l) {b : Nat} (hb : v.ownBlock = some b) : b < A.heap.size := rowLt h hb
theorem OwnsBl.reads {A : World} {v : Value} {l : List Bool} (h : OwnsBl A v l) (h0 : 0 < l.length) : ∃ g cap, v = .slice (some ⟨g, 0, none⟩) l.length cap ∧ l.length ≤ maxLen ∧ ∀ i, i < l.length → A.cell? ⟨g, i, none⟩ = some (.bool (l.getD i false)) ∧ A.frozen? ⟨g, i, none⟩ = false := by
  obtain ⟨a, cap, rfl, hm, hr⟩ := rowReads h
  have key : ∀ i, i < l.length → ∃ b, a = some ⟨b, 0, none⟩ ∧ A.cell? ⟨b, i, none⟩ = some (.bool (l.getD i false)) ∧ A.frozen? ⟨b, i, none⟩ = false := fun i hi => by
    obtain ⟨b, h1, _, h3, h4⟩ := hr i (.bool (l.getD i false)) (by rw [List.getElem?_map, List.getElem?_eq_getElem hi, List.getD_eq_getElem?_getD, List.getElem?_eq_getElem hi]; rfl)
    exact ⟨b, h1, h3, h4⟩
  obtain ⟨g, rfl, _⟩ := key 0 h0
  refine ⟨g, cap, rfl, hm, fun i hi => ?_⟩
  obtain ⟨b, h1, h2, h3⟩ := key i hi
  cases h1
  exact ⟨h2, h3⟩
theorem OwnsBl.cell {A : World} {g cap n : Nat} {l : List Bool} (h : OwnsBl A (.slice (some ⟨g, 0, none⟩) n cap) l) {i : Nat} (hi : i < l.length) : A.cell? ⟨g, i, none⟩ = some (.bool (l.getD i false)) ∧ A.frozen? ⟨g, i, none⟩ = false := by
  obtain ⟨g', c', e, _, h2⟩ := h.reads (by omega)
  cases e
  exact h2 i hi
theorem OwnsBl.app {w : World} {v : Value} {l : List Bool} (h : OwnsBl w v l) {x : Bool} {g : Nat} (c : Nat) (hc : w.cell? ⟨g, 0, none⟩ = some (.bool x)) (hl : l.length ≤ 100000) {m : Nat} (hm : m ≤ w.heap.size) (hv : ∀ b, v.ownBlock = some b → m ≤ b) :
    ∃ v' w', (Builtin.append_ #[135, 135] 135 #[v, .slice (some ⟨g, 0, none⟩) 1 c]).run Tryz.prog w = .ok v' w' ∧ OwnsBl w' v' (l ++ [x]) ∧ App1 m w w' v v' := by
  obtain ⟨v', w', hr, h2, h3⟩ := row_app (P := Tryz.prog) Tryz.underlying135 infoBl rfl (by decide) h (x := .bool x) rfl c hc hl hm hv
  refine ⟨v', w', hr, ?_, h3⟩
  unfold OwnsBl
  rw [List.length_append, List.map_append]
  exact h2
theorem OwnsBl.set {w : World} {g cap n : Nat} {l : List Bool} (h : OwnsBl w (.slice (some ⟨g, 0, none⟩) n cap) l) (hn : n = l.length) {i : Nat} (x : Bool) : OwnsBl (w.setCell ⟨g, i, none⟩ (.bool x)) (.slice (some ⟨g, 0, none⟩) n cap) (l.set i x) := by
  subst hn
  have h2 := (World.ownsRow.stored h i (.bool x)).1
  unfold OwnsBl
  rw [List.length_set, List.map_set]
  exact h2
theorem makeBl (n c : Nat) (hn : n ≤ c) (hc : c ≤ 100000) (w : World) :
    (Instr.makeSlice 135 (.int .i64 (n : Int)) (.int .i64 (c : Int))).run Tryz.prog w = .ok (.slice (some ⟨w.heap.size, 0, none⟩) n c) (w.alloc (.cells (madeCells #[.bool false] c) 4)) := by
  obtain ⟨i, hi, hz, hs, hb⟩ := info_parts infoBl
  have hr := run_make (P := Tryz.prog) w 135 4 i _ Tryz.underlying135 hi hz .i64 .i64 n c (by omega) (by omega) (by rw [hb]; omega) (by omega)
  simp only [Int.toNat_natCast, hs, Nat.mul_one] at hr
  exact hr
theorem madeBl (n c : Nat) (hn : n ≤ c) (hc : c ≤ 100000) (w : World) : OwnsBl (w.alloc (.cells (madeCells #[.bool false] c) 4)) (.slice (some ⟨w.heap.size, 0, none⟩) n c) (List.replicate n false) := by
  unfold OwnsBl
  rw [List.length_replicate]
  refine ⟨by simp, .inr ⟨w.heap.size, c, madeCells #[.bool false] c, rfl, Nat.zero_le _, by show (w.heap.push _)[w.heap.size]? = _; simp, hn, by unfold maxLen; omega, (size_madeCells _ _).trans (Nat.mul_one c).symm, ?_⟩⟩
  refine List.ext_getElem? fun i => ?_
  rw [Nat.mul_one, List.getElem?_take]
  split
  · rename_i hi
    rw [Array.getElem?_toList, List.getElem?_map, List.getElem?_replicate, if_pos hi]
    have h2 : i < c := by omega
    simp [madeCells, Nat.mod_one, h2]
  · rename_i hi
    rw [List.getElem?_eq_none (by simp; omega)]
end Go.Proofs.YtlhpfhnbeagnaaaGreatDoor
namespace Go.Proofs.YtlhpfhnbeagnaaaGreatDoor
open Go.RowKit
theorem Kept.cell {Kd : Nat → Prop} {n : Nat} {A B : World} (h : Kept Kd n A B) {p : Addr} {v : Value} (hk : Kd p.block) (hc : A.cell? p = some v) : B.cell? p = some v := by
  have hlt := cell_lt hc
  obtain ⟨o, ho⟩ : ∃ o, A.heap[p.block]? = some o := ⟨_, Array.getElem?_eq_getElem hlt⟩
  have hr : isRec o = false := by
    cases o <;> simp [World.cell?, ho] at hc <;> rfl
  exact (World.cell?_of_block (w := A) ((h.2 _ _ hk ho (.inl hr)).trans ho.symm)).trans hc
theorem Kept.frozen {X : Nat → Prop} {n : Nat} {A B : World} (h : Kept X n A B) {p : Addr} {v : Value} (hk : X p.block) (hc : A.cell? p = some v) : B.frozen? p = A.frozen? p := by
  have hlt := cell_lt hc
  obtain ⟨o, ho⟩ : ∃ o, A.heap[p.block]? = some o := ⟨_, Array.getElem?_eq_getElem hlt⟩
  have hr : isRec o = false := by
    cases o <;> simp [World.cell?, ho] at hc <;> rfl
  exact World.frozen?_of_block (w := A) ((h.2 _ _ hk ho (.inl hr)).trans ho.symm)
def AlK (Md : Nat → Prop) (n k : Nat) : Prop := (k < n ∧ ¬ Md k) ∨ n ≤ k
theorem range_prefix {k m : Nat} (h : k < m) : List.range k ++ [k] <+: List.range m := by
  rw [← List.range_succ]
  have : List.range m = List.range (k + 1) ++ (List.range (m - (k + 1))).map (k + 1 + ·) := by
    rw [← List.range_add]; congr 1; omega
  rw [this]
  exact List.prefix_append _ _
def Old (A B : World) : Prop := ∀ (k : Nat) (o : Obj), A.heap[k]? = some o → isRec o = false → B.heap[k]? = some o
theorem Old.refl (A : World) : Old A A := fun _ _ h _ => h
theorem Old.ext {A B : World} (h : Ext A B) : Old A B := fun k o hk _ => by rw [Below.block h k (Array.getElem?_eq_some_iff.1 hk).1]; exact hk
theorem Old.trans {A B C : World} (h : Old A B) (k : Old B C) : Old A C := fun i o hi ho => k i o (h i o hi ho) ho
theorem Old.below {A B C : World} (h : Old A B) {n : Nat} (k : Below n B C) (hn : A.heap.size ≤ n) : Old A C := fun i o hi ho => by
  rw [Below.block k i (by have := (Array.getElem?_eq_some_iff.1 hi).1; omega)]; exact h i o hi ho
theorem Old.kept {A B C : World} {Md : Nat → Prop} {n : Nat} (h : Old A B) (k : Kept (AlK Md n) n B C) (hn : A.heap.size ≤ n) (hm : ∀ k, Md k → A.heap.size ≤ k) : Old A C := fun i o hi ho => by
  have hlt := (Array.getElem?_eq_some_iff.1 hi).1
  exact k.2 i o (.inl ⟨by omega, fun c => by have := hm i c; omega⟩) (h i o hi ho) (.inl ho)
theorem Old.cell {A B : World} (h : Old A B) {p : Addr} {v : Value} (hc : A.cell? p = some v) : B.cell? p = some v := by
  have hlt := cell_lt hc
  obtain ⟨o, ho⟩ : ∃ o, A.heap[p.block]? = some o := ⟨_, Array.getElem?_eq_getElem hlt⟩
  have hr : isRec o = false := by
    cases o <;> simp [World.cell?, ho] at hc <;> rfl
  exact (World.cell?_of_block (w := A) ((h _ _ ho hr).trans ho.symm)).trans hc
end Go.Proofs.YtlhpfhnbeagnaaaGreatDoor
namespace Go.Proofs.YtlhpfhnbeagnaaaGreatDoor
def valB (B : Nat) : List Nat → Nat
  | [] => 0
  | x :: l => x + B * valB B l
def OkB (B : Nat) (l : List Nat) : Prop := ∀ x ∈ l, x < B
def Trim (l : List Nat) : Prop := l.getLast? ≠ some 0
def toB (B n : Nat) : List Nat := if _h : n = 0 ∨ B < 2 then [] else n % B :: toB B (n / B)
termination_by n
decreasing_by exact Nat.div_lt_self (by omega) (by omega)
theorem toB_zero (B : Nat) : toB B 0 = [] := by rw [toB]; simp
theorem toB_pos {B n : Nat} (hB : 2 ≤ B) (hn : n ≠ 0) : toB B n = n % B :: toB B (n / B) := by rw [toB, dif_neg (by omega)]
theorem valB_append (B : Nat) (l m : List Nat) : valB B (l ++ m) = valB B l + B ^ l.length * valB B m := by
  induction l with
  | nil => simp [valB]
  | cons x l ih =>
    show x + B * valB B (l ++ m) = x + B * valB B l + B ^ (l.length + 1) * valB B m
    rw [ih, Nat.pow_succ, Nat.mul_add, Nat.add_assoc]
    congr 2
    rw [← Nat.mul_assoc, Nat.mul_comm B]
theorem valB_lt {B : Nat} {l : List Nat} (h : OkB B l) : valB B l < B ^ l.length := by
  induction l with
  | nil => simp [valB]
  | cons x l ih =>
    have h1 := h x (List.mem_cons_self ..)
    have h2 := ih fun y hy => h y (List.mem_cons_of_mem _ hy)
    show x + B * valB B l < B ^ (l.length + 1)
    have h3 : B * (valB B l + 1) ≤ B * B ^ l.length := Nat.mul_le_mul_left B h2
    rw [Nat.pow_succ, Nat.mul_comm (B ^ l.length)]
    rw [Nat.mul_add] at h3
    omega
theorem valB_toB {B : Nat} (hB : 2 ≤ B) (n : Nat) : valB B (toB B n) = n := by
  induction n using Nat.strongRecOn with
  | ind n ih =>
    by_cases h : n = 0
    · subst h; rw [toB_zero]; rfl
    · rw [toB_pos hB h]
      show n % B + B * valB B (toB B (n / B)) = n
      rw [ih _ (Nat.div_lt_self (by omega) (by omega)), Nat.mod_add_div]
theorem okB_toB {B : Nat} (hB : 2 ≤ B) (n : Nat) : OkB B (toB B n) := by
  induction n using Nat.strongRecOn with
  | ind n ih =>
    by_cases h : n = 0
    · subst h; rw [toB_zero]; intro x hx; cases hx
    · rw [toB_pos hB h]
      intro x hx
      rcases List.mem_cons.1 hx with rfl | hx
      · exact Nat.mod_lt _ (by omega)
      · exact ih _ (Nat.div_lt_self (by omega) (by omega)) x hx
theorem trim_cons {x : Nat} {l : List Nat} (h : Trim l) (hx : l ≠ [] ∨ x ≠ 0) : Trim (x :: l) := by
  unfold Trim at *
  cases l with
  | nil => rcases hx with hx | hx <;> simp_all
  | cons y l => rw [List.getLast?_cons_cons]; exact h
theorem trim_tail {x : Nat} {l : List Nat} (h : Trim (x :: l)) : Trim l := by
  unfold Trim at *
  cases l with
  | nil => simp
  | cons y l => rw [List.getLast?_cons_cons] at h; exact h
theorem trim_toB {B : Nat} (hB : 2 ≤ B) (n : Nat) : Trim (toB B n) := by
  induction n using Nat.strongRecOn with
  | ind n ih =>
    by_cases h : n = 0
    · subst h; rw [toB_zero]; unfold Trim; simp
    · rw [toB_pos hB h]
      refine trim_cons (ih _ (Nat.div_lt_self (by omega) (by omega))) ?_
      by_cases h2 : n / B = 0
      · right
        have := (Nat.div_eq_zero_iff_lt (by omega)).1 h2
        rw [Nat.mod_eq_of_lt this]; exact h
      · left
        rw [toB_pos hB h2]; simp
theorem val_zero {B : Nat} {l : List Nat} (ht : Trim l) (hv : valB B l = 0) (hB : 2 ≤ B) : l = [] := by
  induction l with
  | nil => rfl
  | cons x l ih =>
    have h1 : x + B * valB B l = 0 := hv
    have h2 : valB B l = 0 := by
      rcases Nat.mul_eq_zero.1 (show B * valB B l = 0 by omega) with h | h
      · omega
      · exact h
    have h3 := ih (trim_tail ht) h2
    subst h3
    have : x = 0 := by omega
    subst this
    exact absurd rfl ht
theorem eq_toB {B : Nat} (hB : 2 ≤ B) {l : List Nat} (hk : OkB B l) (ht : Trim l) : l = toB B (valB B l) := by
  induction l with
  | nil => rw [show valB B [] = 0 from rfl, toB_zero]
  | cons x l ih =>
    have hx := hk x (List.mem_cons_self ..)
    have ih := ih (fun y hy => hk y (List.mem_cons_of_mem _ hy)) (trim_tail ht)
    have hne : valB B (x :: l) ≠ 0 := fun h => by have := val_zero ht h hB; cases this
    rw [toB_pos hB hne]
    have e1 : valB B (x :: l) % B = x := by
      show (x + B * valB B l) % B = x
      rw [Nat.add_mul_mod_self_left, Nat.mod_eq_of_lt hx]
    have e2 : valB B (x :: l) / B = valB B l := by
      show (x + B * valB B l) / B = valB B l
      rw [Nat.add_mul_div_left _ _ (by omega), Nat.div_eq_of_lt hx, Nat.zero_add]
    rw [e1, e2, ← ih]
def trimL (l : List Nat) : List Nat := (l.reverse.dropWhile (· == 0)).reverse
theorem trimL_spec (l : List Nat) : ∃ k, l = trimL l ++ List.replicate k 0 ∧ Trim (trimL l) := by
  have key : ∀ r : List Nat, ∃ k, r.reverse = (r.dropWhile (· == 0)).reverse ++ List.replicate k 0 ∧ Trim (r.dropWhile (· == 0)).reverse := by
    intro r
    induction r with
    | nil => exact ⟨0, by simp, by simp [Trim]⟩
    | cons x r ih =>
      by_cases h : x = 0
      · subst h
        obtain ⟨k, h1, h2⟩ := ih
        refine ⟨k + 1, ?_, by simpa using h2⟩
        rw [List.reverse_cons, h1, List.replicate_succ', List.append_assoc]
        simp
      · exact ⟨0, by simp [h], by simp [h, Trim]⟩
  obtain ⟨k, h1, h2⟩ := key l.reverse
  rw [List.reverse_reverse] at h1
  exact ⟨k, h1, h2⟩
theorem valB_zeros (B k : Nat) : valB B (List.replicate k 0) = 0 := by
  induction k with
  | zero => rfl
  | succ k ih => rw [List.replicate_succ]; show 0 + B * valB B _ = 0; rw [ih]; omega
theorem valB_trimL (B : Nat) (l : List Nat) : valB B (trimL l) = valB B l := by
  obtain ⟨k, h, _⟩ := trimL_spec l
  conv => rhs; rw [h, valB_append, valB_zeros]
  omega
theorem trimL_toB {B : Nat} (hB : 2 ≤ B) {l : List Nat} (hk : OkB B l) : trimL l = toB B (valB B l) := by
  obtain ⟨k, h, ht⟩ := trimL_spec l
  have h2 : OkB B (trimL l) := fun x hx => hk x (by rw [h]; exact List.mem_append.2 (.inl hx))
  rw [← valB_trimL B l]
  exact eq_toB hB h2 ht
end Go.Proofs.YtlhpfhnbeagnaaaGreatDoor
