/- Steps of the proof: PartsR, OwnI, Shelf, SortI, Parts, Near. No conditions. -/
import Derived.Shelf.Small.Bits
import Derived.Shelf.Small.Wraps
import Derived.Shelf.Strconv.Itoa0
import Derived.Shelf.Slices.Equal
import Derived.Ground.Names2Prog
import Derived.Shelf.Slices.SearchI
import Derived.Shelf.Slices.Empties2
import Derived.Ground.SlsfProg
import Derived.Shelf.SlSortCmp.Insertion
import Derived.Shelf.SlSortCmp.SiftDown1
import Derived.Shelf.SlSortCmp.HeapSort1
import Derived.Shelf.SlSortCmp.Insertion1
import Derived.Shelf.SlSortCmp.Median1
import Derived.Shelf.SlSortCmp.Pivot1
import Derived.Shelf.SlSortCmp.ReverseRange1
import Derived.Shelf.SlSortCmp.PartialInsertion1
import Derived.Shelf.SlSortCmp.PartitionEqual1
import Derived.Shelf.SlSortCmp.Partition1
import Derived.Shelf.SlSortCmp.Pdq1
import Derived.Shelf.SlSortCmp.Whole1
import Derived.Shelf.SlSortCmp.NoneTotal
import Derived.Test.YtfigooilhnahfaaProg
import Derived.Lib.SortBridge
import Derived.Test.YtfigooilhnahfaaZChecks1
import Derived.Test.YtfigooilhnahfaaZChecks2
import Derived.Test.YtfigooilhnahfaaZChecks3
/- The parts: the loop over the wave. -/
namespace Go.Proofs.Ytfigooilhnahfaa
open Go.RowKit Go.Maps
attribute [local go_sem] Oper.semAt_some

/-- a set of places in memory -/
def SeenM (w : World) (mb : Nat) (n : Nat) (S : List Pt) : Prop := ∃ k, k ≤ n ∧ SetAt Try.prog 26 4 evPl w mb k S
theorem SeenM.same {w w' : World} {mb n : Nat} {S : List Pt} (h : SeenM w mb n S) (hb : w'.heap[mb]? = w.heap[mb]?) : SeenM w' mb n S := by
  obtain ⟨k, h1, h2⟩ := h
  exact ⟨k, h1, h2.same hb⟩
theorem SeenM.lt {w : World} {mb n : Nat} {S : List Pt} (h : SeenM w mb n S) : mb < w.heap.size := by
  obtain ⟨k, _, h2⟩ := h
  exact h2.lt

/-- what holds while the wave runs -/
structure PtR (mb sb nb lo n0 : Nat) (S0 : List Pt) (w3 : World) (pre : List (Pt × Nat)) (W : World) : Prop where
  cn : W.cell? ⟨nb, 0, none⟩ = some (.int .i64 pre.length)
  fn : W.frozen? ⟨nb, 0, none⟩ = false
  cm : W.cell? ⟨sb, 0, none⟩ = some (.map (some mb))
  se : SeenM W mb (n0 + pre.length) (insAll S0 (pre.map (·.1)))
  ch : Chg (fun k => k = nb ∨ k = mb) w3 W
  be : Below lo w3 W
theorem PtR.below {mb sb nb lo n0 : Nat} {S0 : List Pt} {w3 : World} {pre : List (Pt × Nat)} {A B : World} (h : PtR mb sb nb lo n0 S0 w3 pre A) (k : Below w3.heap.size A B) (h1 : mb < w3.heap.size) (h2 : sb < w3.heap.size) (h3 : nb < w3.heap.size) (h4 : lo ≤ w3.heap.size) : PtR mb sb nb lo n0 S0 w3 pre B :=
  ⟨(k.cell (p := ⟨nb, 0, none⟩) h3).trans h.cn, (k.frozen (p := ⟨nb, 0, none⟩) h3).trans h.fn, (k.cell (p := ⟨sb, 0, none⟩) h2).trans h.cm, h.se.same (k.block mb h1), ⟨Nat.le_trans h.ch.1 k.size, fun i hi hb => (k.block i hi).trans (h.ch.2 i hi hb)⟩, h.be.trans (k.mono h4)⟩

set_option maxHeartbeats 4000000 in
set_option maxRecDepth 100000 in
theorem parts_range (cas cbd : Code) (hcode : rngOf (Try.f22.body.getD .skip) = [(cas, cbd)]) (g : Gr) (p : Pt) (ga : Option Addr) (gc : Nat) (w3 : World) (pb gb mb sb nb lo n0 : Nat) (S0 : List Pt)
    (hr : Right g) (hp : inside g p = true)
    (p1 : w3.cell? ⟨pb, 0, none⟩ = some (.int .i64 p.1)) (p2 : w3.cell? ⟨pb, 1, none⟩ = some (.int .i64 p.2))
    (g1 : w3.cell? ⟨gb, 0, none⟩ = some (.int .i64 g.rows)) (g2 : w3.cell? ⟨gb, 1, none⟩ = some (.int .i64 g.cols)) (g3 : w3.cell? ⟨gb, 2, none⟩ = some (.slice ga g.bl.length gc))
    (hc : Cells2 w3 ga g.bl) (m1 : ¬ (pb = nb ∨ pb = mb)) (m2 : ¬ (gb = nb ∨ gb = mb)) (m3 : g.bl ≠ [] → ∀ b off, ga = some ⟨b, off, none⟩ → ¬ (b = nb ∨ b = mb))
    (h0 : PtR mb sb nb lo n0 S0 w3 [] w3) (hs1 : sb ≠ nb) (hs2 : sb ≠ mb) (hmn : mb ≠ nb) (hlo : lo ≤ nb) (hlo2 : lo ≤ mb) (hn0 : n0 ≤ 16777216)
    (u0 u1 u2 u3 u4 u5 u7 u8 u9 u11 u12 u13 u14 u15 u16 u17 u18 u19 u20 u21 u22 u23 u24 u25 u26 u27 u28 u29 u30 u31 u32 u33 u34 u35 u36 u37 u38 u39 u40 u42 u43 u44 u45 u46 u47 u48 u49 u50 u51 u52 u53 u54 u55 u56 : Value) (ds : List Deferred) (Q : Exit → Act → World → Prop)
    (hdone : ∀ (D : Nat) (W : World), w3.heap.size ≤ D → D < W.heap.size → PtR mb sb nb lo n0 S0 w3 (wave g p) W → W.heap[D]? = some (.deferred (some [])) →
      Q .normal { tmps := #[u0, u1, u2, u3, u4, u5, .pointer (some ⟨sb, 0, none⟩), u7, u8, u9, .pointer (some ⟨nb, 0, none⟩), u11, u12, u13, u14, u15, u16, u17, u18, u19, u20, u21, u22, u23, u24, u25, u26, u27, u28, u29, u30, u31, u32, u33, u34, u35, u36, u37, u38, u39, u40, .func (.func 78) #[] #[.pointer (some ⟨pb, 0, none⟩), .pointer (some ⟨gb, 0, none⟩)], u42, u43, u44, u45, u46, u47, u48, u49, u50, u51, u52, u53, u54, u55, u56], defers := mark D :: ds } W) :
    (Code.rangeFunc (.tmp 41) #[42, 43] cas cbd).wp Try.prog Q { tmps := #[u0, u1, u2, u3, u4, u5, .pointer (some ⟨sb, 0, none⟩), u7, u8, u9, .pointer (some ⟨nb, 0, none⟩), u11, u12, u13, u14, u15, u16, u17, u18, u19, u20, u21, u22, u23, u24, u25, u26, u27, u28, u29, u30, u31, u32, u33, u34, u35, u36, u37, u38, u39, u40, .func (.func 78) #[] #[.pointer (some ⟨pb, 0, none⟩), .pointer (some ⟨gb, 0, none⟩)], u42, u43, u44, u45, u46, u47, u48, u49, u50, u51, u52, u53, u54, u55, u56], defers := ds } w3 := by
  have HC := Lib.hid hcode
  have HR := Lib.hid hr
  have HP := Lib.hid hp
  have hzm := h0.se.lt
  have hzs : sb < w3.heap.size := cell_lt h0.cm
  have hzn : nb < w3.heap.size := cell_lt h0.cn
  have hlo3 : lo ≤ w3.heap.size := by omega
  refine wp_range (n := 0) (gf := 78) (lb := #[.pointer (some ⟨pb, 0, none⟩), .pointer (some ⟨gb, 0, none⟩)]) rfl (enters_of Try.func78 (by kernel_rfl) rfl)
    (wave1_iter g p ga gc w3 pb gb (fun k => k = nb ∨ k = mb) hr hp p1 p2 g1 g2 g3 hc m1 m2 m3) (fun q => rfl)
    (fun A B h k o hk ho => by rw [Below.block h k hk]; exact ho)
    (PtR mb sb nb lo n0 S0 w3) (fun _ _ _ => False)
    (fun pre A B h k => h.below (k.mono (by omega)) hzm hzs hzn hlo3) (fun _ _ _ _ h _ => h.elim)
    (fun pre A B h k => h.below k.1 hzm hzs hzn hlo3) (fun _ _ _ _ h _ => h.elim)
    h0
    (fun (x : Pt × Nat) a' W => ∃ qb, w3.heap.size + 2 ≤ qb ∧ W.cell? ⟨qb, 0, none⟩ = some (.int .i64 x.1.1) ∧ W.cell? ⟨qb, 1, none⟩ = some (.int .i64 x.1.2) ∧ a' = { tmps := #[u0, u1, u2, u3, u4, u5, .pointer (some ⟨sb, 0, none⟩), u7, u8, u9, .pointer (some ⟨nb, 0, none⟩), .pointer (some ⟨qb, 0, none⟩), u12, u13, u14, u15, u16, u17, u18, u19, u20, u21, u22, u23, u24, u25, u26, u27, u28, u29, u30, u31, u32, u33, u34, u35, u36, u37, u38, u39, u40, .func (.func 78) #[] #[.pointer (some ⟨pb, 0, none⟩), .pointer (some ⟨gb, 0, none⟩)], .agg #[.int .i64 x.1.1, .int .i64 x.1.2], .int .i64 x.2, u44, u45, u46, u47, u48, u49, u50, u51, u52, u53, u54, u55, u56], defers := [] })
    ?hax ?assign ?body (fun pre A B h k => h.below (k.mono (Nat.le_trans (Nat.le_refl _) h.ch.1)) hzm hzs hzn hlo3) ?done (fun _ _ _ _ _ _ _ h _ => h.elim)
  case hax =>
    rintro q a' A B ⟨qb, h1, h2, h3, h4⟩ hk
    exact ⟨qb, h1, hk.cell h2, hk.cell h3, h4⟩
  case assign =>
    simp only [Try.f22, rngOf, Option.getD, List.nil_append, List.append_nil] at hcode
    cases hcode
    intro l pre x W K hm hI hK
    clear HC
    gi_wp2
    exact hK _ _ ((Ext.refl _).alloc _) ⟨W.heap.size, by omega, by go_simp, by go_simp, rfl⟩
  case body =>
    simp only [Try.f22, rngOf, Option.getD, List.nil_append, List.append_nil] at hcode
    cases hcode
    rintro l pre x a' W hpre hm hI ⟨qb, hqb, q1, q2, rfl⟩
    have hxi : inside g x.1 = true := wave_inside hp x (hpre.subset (by simp))
    have hlen : pre.length + 1 ≤ 4096 := by
      have h1 := hpre.length_le
      have h2 := wave_len hr hp
      simp at h1
      omega
    have c1 := hI.cn
    have c2 := hI.fn
    have c3 := hI.cm
    have HI := Lib.hid hI
    obtain ⟨kn, hkn, hS⟩ := hI.se
    obtain ⟨kl, hkl⟩ := keyPl (wf_inG (inG_of HR.out hxi)).1 (wf_inG (inG_of HR.out hxi)).2
    have hnl : kn < maxLen := by unfold maxLen; omega
    have hmx : maxLen = 9223372036854775807 := rfl
    obtain ⟨w6, hup, hS6, hg6⟩ := hS.update (t := 98) lawPl Try.underlying98 Try.underlying4 hnl evPl_inj hkl
    have HS6 := Lib.hid hS6
    have HG6 := Lib.hid hg6
    have HKN := Lib.hid hkn
    have C6 : Chg (fun k => k = nb ∨ k = mb) W w6 := ⟨hg6.size, fun k hk hn => hg6.block k hk (fun e => hn (.inr (by cases e; rfl)))⟩
    have CM : Chg (fun k => k = mb) W w6 := ⟨hg6.size, fun k hk hn => hg6.block k hk (fun e => hn (by cases e; rfl))⟩
    have KM : Kept (fun k => k ≠ mb) 0 W w6 := CM.kept (fun k hk _ => hk)
    have d1 : w6.cell? ⟨nb, 0, none⟩ = some (.int .i64 pre.length) := KM.cell (p := ⟨nb, 0, none⟩) (fun e => hmn e.symm) c1
    have d2 : w6.frozen? ⟨nb, 0, none⟩ = false := (KM.frozen (p := ⟨nb, 0, none⟩) (fun e => hmn e.symm) c1).trans c2
    have d3 : w6.cell? ⟨sb, 0, none⟩ = some (.map (some mb)) := KM.cell (p := ⟨sb, 0, none⟩) hs2 c3
    have q0 : IntKind.i64.wrap ((pre.length : Int) + 1) = (pre.length : Int) + 1 := IntWalk.i64_in _ (by omega)
    have HC6 := Lib.hid C6
    unfold evPl at hup
    clear HC hI hp hr hpre m3 hc h0 p1 p2 g1 g2 g3 hS hS6 hg6 hkn C6 CM KM hkl hnl hmx
    gi_wp2
    have C : Chg (fun k => k = nb ∨ k = mb) W (w6.setCell ⟨nb, 0, none⟩ (.int .i64 ((pre.length : Int) + 1))) := HC6.out.trans (Chg.setCell (B := fun k => k = nb ∨ k = mb) ⟨nb, _, none⟩ _ (.inl rfl))
    have zm : lo ≤ W.heap.size := by have := HI.out.ch.1; omega
    refine ⟨C.kept ?_, ⟨C.1, fun k o hB hk _ => (C.2 k (Array.getElem?_eq_some_iff.1 hk).1 (by omega)).trans hk⟩, ?_⟩
    · rintro k (⟨_, h1, h2⟩ | h) _ (e | e)
      · exact h1 e
      · exact h2 e
      · omega
      · omega
    · exact {
        cn := by
          rw [World.cell?_setCell_same _ _ _ d1, List.length_append, List.length_singleton]
          rfl
        fn := by rw [World.frozen?_setCell]; exact d2
        cm := by
          rw [World.cell?_setCell_other _ _ _ _ (fun h => by simp only [Addr.mk.injEq] at h; exact hs1 h.1.symm)]
          exact d3
        se := by
          have h1 : SeenM w6 mb (n0 + (pre ++ [x]).length) (insAll S0 ((pre ++ [x]).map (·.1))) := by
            refine ⟨kn + 1, ?_, ?_⟩
            · have := HKN.out; simp; omega
            · rw [List.map_append, List.map_singleton, insAll_snoc]
              have h9 := HS6.out
              unfold ins
              split at h9 <;> split <;> first | exact h9 | contradiction
          exact h1.same (Below.heap_setCell _ _ _ _ (fun e => hmn e))
        ch := HI.out.ch.trans C
        be := (HI.out.be.grown HG6.out zm (fun j hj => by cases hj; exact hlo2)).setCell (p := ⟨nb, _, none⟩) hlo _ }
  case done =>
    rintro D W h1 h2 h3 h6
    exact hdone D W h1 h2 h3 h6
end Go.Proofs.Ytfigooilhnahfaa
/- Slices of numbers of one's own. -/
namespace Go.Proofs.Ytfigooilhnahfaa
open Go.RowKit

def CellsI (w : World) (a : Option Addr) (l : List Int) : Prop := ∀ i, i < l.length → ∃ b off, a = some ⟨b, off, none⟩ ∧ w.cell? ⟨b, off + i, none⟩ = some (.int .i64 (l.getD i 0))
theorem CellsI.ext {w w' : World} {a : Option Addr} {l : List Int} (h : CellsI w a l) (he : Ext w w') : CellsI w' a l := fun i hi => by
  obtain ⟨b, off, h1, h2⟩ := h i hi
  exact ⟨b, off, h1, he.cell h2⟩
theorem CellsI.nil (w : World) (a : Option Addr) : CellsI w a [] := fun i hi => by simp at hi

def vals (l : List Int) : List Value := l.map (Value.int .i64)
/-- the slice value v owns the numbers l -/
def OwnsI (w : World) (v : Value) (l : List Int) : Prop := w.ownsRow 0 3 1 v l.length (vals l)
theorem OwnsI.nil (w : World) : OwnsI w (.slice none 0 0) [] := World.ownsRow_nil w 0 _ _
theorem OwnsI.kept {X : Nat → Prop} {n : Nat} {A B : World} {v : Value} {N : List Int} (ho : OwnsI A v N) (h : Kept X n A B) (hk : ∀ b, v.ownBlock = some b → X b) : OwnsI B v N := by
  obtain ⟨h1, h2⟩ := ho
  refine ⟨h1, ?_⟩
  rcases h2 with h2 | ⟨g, cap, cur, hv, hg, hh, r⟩
  · exact .inl h2
  · exact .inr ⟨g, cap, cur, hv, hg, h.2 g _ (hk g (by rw [hv]; rfl)) hh (.inl rfl), r⟩
theorem OwnsI.ext {A B : World} {v : Value} {N : List Int} (ho : OwnsI A v N) (h : Ext A B) : OwnsI B v N := ho.kept (Kept.ext h (fun _ => True) 0) (fun _ _ => trivial)
theorem OwnsI.lt {A : World} {v : Value} {N : List Int} (ho : OwnsI A v N) {b : Nat} (hb : v.ownBlock = some b) : b < A.heap.size := (World.ownsRow.lt ho b hb).2
theorem OwnsI.keep {m : Nat} {A B : World} {v : Value} {N : List Int} (ho : OwnsI A v N) (h : Keep m A B) : OwnsI B v N := by
  obtain ⟨h1, h2⟩ := ho
  refine ⟨h1, ?_⟩
  rcases h2 with h2 | ⟨g, cap, cur, hv, hg, hh, r⟩
  · exact .inl h2
  · exact .inr ⟨g, cap, cur, hv, hg, h.2 g _ hh rfl, r⟩
theorem OwnsI.reads {A : World} {v : Value} {N : List Int} (ho : OwnsI A v N) : ∃ a cap, v = .slice a N.length cap ∧ CellsI A a N ∧ (N = [] ∨ ∃ b, a = some ⟨b, 0, none⟩ ∧ v.ownBlock = some b ∧ ∀ i, i < N.length → A.cell? ⟨b, i, none⟩ = some (.int .i64 (N.getD i 0)) ∧ A.frozen? ⟨b, i, none⟩ = false) := by
  rcases ho.2 with ⟨hv, hn⟩ | ⟨g, cap, cur, hv, hg, hh, hnc, hm, hcs, ht⟩
  · have : N = [] := List.eq_nil_of_length_eq_zero hn
    subst this
    exact ⟨none, 0, hv, CellsI.nil _ _, .inl rfl⟩
  · have key : ∀ i, i < N.length → A.cell? ⟨g, i, none⟩ = some (.int .i64 (N.getD i 0)) := fun i hi => by
      have hc := World.ownsRow.cells ho (g := g) (by rw [hv]; rfl)
      have := hc i (.int .i64 (N.getD i 0)) (by simp [vals, List.getD, hi])
      rwa [Addr.add_lit, Nat.zero_add] at this
    refine ⟨some ⟨g, 0, none⟩, cap, hv, fun i hi => ⟨g, 0, rfl, by rw [Nat.zero_add]; exact key i hi⟩, .inr ⟨g, rfl, by rw [hv]; rfl, fun i hi => ⟨key i hi, ?_⟩⟩⟩
    have ho' : A.ownsRow 0 3 1 (.slice (some ⟨g, 0, none⟩) N.length cap) N.length (vals N) := by have h9 := ho; unfold OwnsI at h9; rw [hv] at h9; exact h9
    exact ho'.frozenAt i
theorem OwnsI.isCells {A : World} {v : Value} {N : List Int} (h : OwnsI A v N) {b : Nat} (hb : v.ownBlock = some b) {o : Obj} (ho : A.heap[b]? = some o) : o.isCells = true := by
  rcases h.2 with ⟨hv, _⟩ | ⟨g, cap, cur, hv, _, hh, _⟩
  · rw [hv] at hb; cases hb
  · rw [hv] at hb; cases hb
    rw [hh] at ho; cases ho; rfl
theorem ownsI_succ {w : World} {v : Value} {N : List Int} {x : Int} (h : w.ownsRow 0 3 1 v (N.length + 1) (vals N ++ [.int .i64 x])) : OwnsI w v (N ++ [x]) := by
  unfold OwnsI vals
  rw [List.length_append, List.length_singleton, List.map_append]
  exact h
theorem infoInt : (Try.prog.info? 3).map (fun i => (i.zero, i.size, i.bytes)) = some (some (.int .i64 0), 1, 8) := by kernel_rfl
theorem cell_one_int (w : World) (a : Value) (t : TypeId) : ∀ j u, ([a] : List Value)[j]? = some u → (w.alloc (.cells #[a] t)).cell? ((⟨w.heap.size, 0, none⟩ : Addr).add j) = some u := by
  intro j u h
  match j, h with
  | 0, h => simp at h; subst h; rw [Addr.add_lit, World.cell?_alloc_new]; rfl
end Go.Proofs.Ytfigooilhnahfaa
/-
  DERIVED: THE SHELF's CONTRACTS AT THIS DUMP, IN PLAIN WORDS (tools/lay-plain.mjs out of 'TryShelf.lean', which tools/lay-shelf.mjs wrote): THE SAME DECLARATIONS UNDER THE SAME NAMES: 'import', 'namespace', 'open', 'def', 'theorem' AND NOTHING ELSE: no command of the shelf's: FOR A HAND-IN. Each laying: the table of numbers ('.._ren') and one theorem, a field a fact of the dump's own or the kernel's comparison; each contract: ONE APPLICATION.
-/
namespace Go.Proofs
open Go.Shelf
def Try.lays128_ren : Go.Shelf.Ren := ⟨fun | 128 => 92 | n => n, fun | 51 => 134 | 3 => 3 | 4 => 4 | 46 => 124 | 5 => 5 | 9 => 9 | n => n, fun | n => n⟩
theorem Try.lays128 : Go.Proofs.Lays.n128 Try.prog Try.lays128_ren := {
  mixed := by kernel_rfl
  f128 := Try.func92.trans (congrArg some (by kernel_rfl))
  t3 := Try.underlying3
  a3 := Try.isAgg3
  z3 := Try.sizeOf3
  v3 := Try.zeroValue3
  t4 := Try.underlying4
  a4 := Try.isAgg4
  z4 := Try.sizeOf4
  v4 := Try.zeroValue4
  t5 := Try.underlying5
  a5 := Try.isAgg5
  z5 := Try.sizeOf5
  v5 := Try.zeroValue5
  t9 := Try.underlying9
  a9 := Try.isAgg9
  z9 := Try.sizeOf9
  v9 := Try.zeroValue9
  t46 := Try.underlying124
  a46 := Try.isAgg124
  z46 := Try.sizeOf124
  v46 := Try.zeroValue124
  t51 := Try.underlying134
  a51 := Try.isAgg134
  z51 := Try.sizeOf134
  v51 := Try.zeroValue134 }
/-- bits.Len32: "Len32 returns the minimum number of bits required to represent x; the result is 0 for x == 0.": IT RETURNS 'Lib.bitLen x'; the world is as it was. ('h0', 'h1': x is a uint32.) (LAID: no walk: one application.) -/
theorem Try.bits_Len32 (x : Int) (w : World) (h0 : 0 ≤ x) (h1 : x ≤ 4294967295) :
    Calls Try.prog 92 #[.int .u32 x] w fun e w' => e = .returned (.int .i64 (Lib.bitLen x.toNat)) ∧ w' = w := Any.bits_Len32 Try.lays128 x w h0 h1
def Try.lays125_ren : Go.Shelf.Ren := ⟨fun | 125 => 80 | 128 => 92 | 129 => 93 | n => n, fun | 46 => 124 | 3 => 3 | 51 => 134 | 53 => 136 | 4 => 4 | 5 => 5 | 9 => 9 | n => n, fun | n => n⟩
theorem Try.lays125 : Go.Proofs.Lays.n125 Try.prog Try.lays125_ren := {
  mixed := by kernel_rfl
  f125 := Try.func80.trans (congrArg some (by kernel_rfl))
  f128 := Try.func92.trans (congrArg some (by kernel_rfl))
  f129 := Try.func93.trans (congrArg some (by kernel_rfl))
  t3 := Try.underlying3
  a3 := Try.isAgg3
  z3 := Try.sizeOf3
  v3 := Try.zeroValue3
  t4 := Try.underlying4
  a4 := Try.isAgg4
  z4 := Try.sizeOf4
  v4 := Try.zeroValue4
  t5 := Try.underlying5
  a5 := Try.isAgg5
  z5 := Try.sizeOf5
  v5 := Try.zeroValue5
  t9 := Try.underlying9
  a9 := Try.isAgg9
  z9 := Try.sizeOf9
  v9 := Try.zeroValue9
  t46 := Try.underlying124
  a46 := Try.isAgg124
  z46 := Try.sizeOf124
  v46 := Try.zeroValue124
  t51 := Try.underlying134
  a51 := Try.isAgg134
  z51 := Try.sizeOf134
  v51 := Try.zeroValue134
  t53 := Try.underlying136
  a53 := Try.isAgg136
  z53 := Try.sizeOf136
  v53 := Try.zeroValue136 }
/-- bits.Len: "Len returns the minimum number of bits required to represent x; the result is 0 for x == 0.": IT RETURNS 'Lib.bitLen x'; the world is as it was. (A uint has 64 bits in the model.) ITS CALLEE bits.Len64 IS MET BY ITS OWN CONTRACT OFF THE SHELF (lay that first). (LAID: no walk: one application.) -/
theorem Try.bits_Len (x : Int) (w : World) (h0 : 0 ≤ x) (h1 : x ≤ 18446744073709551615) :
    Calls Try.prog 80 #[.int .u64 x] w fun e w' => e = .returned (.int .i64 (Lib.bitLen x.toNat)) ∧ w' = w := Any.bits_Len Try.lays125 x w h0 h1
def Try.lays215_ren : Go.Shelf.Ren := ⟨fun | 215 => 83 | n => n, fun | 3 => 3 | 4 => 4 | n => n, fun | n => n⟩
theorem Try.lays215 : Go.Proofs.Lays.n215 Try.prog Try.lays215_ren := {
  mixed := by kernel_rfl
  f215 := Try.func83.trans (congrArg some (by kernel_rfl))
  t3 := Try.underlying3
  a3 := Try.isAgg3
  z3 := Try.sizeOf3
  v3 := Try.zeroValue3
  t4 := Try.underlying4
  a4 := Try.isAgg4
  z4 := Try.sizeOf4
  v4 := Try.zeroValue4 }
open Go.RowKit in
/-- cmp.isNaN at int: 'x != x': false. (LAID: no walk: one application.) -/
theorem Try.cmp_isNaN_int (x : Int) (w : World) :
    Calls Try.prog 83 #[.int .i64 x] w fun e w' => e = .returned (.bool false) ∧ w' = w := Any.cmp_isNaN_int Try.lays215 x w
def Try.lays122_ren : Go.Shelf.Ren := ⟨fun | 122 => 76 | 215 => 83 | n => n, fun | 3 => 3 | 4 => 4 | n => n, fun | n => n⟩
theorem Try.lays122 : Go.Proofs.Lays.n122 Try.prog Try.lays122_ren := {
  mixed := by kernel_rfl
  f122 := Try.func76.trans (congrArg some (by kernel_rfl))
  f215 := Try.func83.trans (congrArg some (by kernel_rfl))
  t3 := Try.underlying3
  a3 := Try.isAgg3
  z3 := Try.sizeOf3
  v3 := Try.zeroValue3
  t4 := Try.underlying4
  a4 := Try.isAgg4
  z4 := Try.sizeOf4
  v4 := Try.zeroValue4 }
open Go.RowKit in
/-- cmp.Compare at int: "Compare returns -1 if x is less than y, 0 if x equals y, +1 if x is greater than y.": IT RETURNS 'Lib.compareInt x y'; the world is as it was. (LAID: no walk: one application.) -/
theorem Try.cmp_Compare_int (x y : Int) (w : World) :
    Calls Try.prog 76 #[.int .i64 x, .int .i64 y] w fun e w' => e = .returned (.int .i64 (Lib.compareInt x y)) ∧ w' = w := Any.cmp_Compare_int Try.lays122 x y w
def Try.lays129_ren : Go.Shelf.Ren := ⟨fun | 129 => 93 | n => n, fun | 53 => 136 | 3 => 3 | 4 => 4 | 46 => 124 | 5 => 5 | 9 => 9 | n => n, fun | n => n⟩
theorem Try.lays129 : Go.Proofs.Lays.n129 Try.prog Try.lays129_ren := {
  mixed := by kernel_rfl
  f129 := Try.func93.trans (congrArg some (by kernel_rfl))
  t3 := Try.underlying3
  a3 := Try.isAgg3
  z3 := Try.sizeOf3
  v3 := Try.zeroValue3
  t4 := Try.underlying4
  a4 := Try.isAgg4
  z4 := Try.sizeOf4
  v4 := Try.zeroValue4
  t5 := Try.underlying5
  a5 := Try.isAgg5
  z5 := Try.sizeOf5
  v5 := Try.zeroValue5
  t9 := Try.underlying9
  a9 := Try.isAgg9
  z9 := Try.sizeOf9
  v9 := Try.zeroValue9
  t46 := Try.underlying124
  a46 := Try.isAgg124
  z46 := Try.sizeOf124
  v46 := Try.zeroValue124
  t53 := Try.underlying136
  a53 := Try.isAgg136
  z53 := Try.sizeOf136
  v53 := Try.zeroValue136 }
/-- bits.Len64: "Len64 returns the minimum number of bits required to represent x; the result is 0 for x == 0.": IT RETURNS 'Lib.bitLen x'; the world is as it was. ('h0', 'h1': x is a uint64.) (LAID: no walk: one application.) -/
theorem Try.bits_Len64 (x : Int) (w : World) (h0 : 0 ≤ x) (h1 : x ≤ 18446744073709551615) :
    Calls Try.prog 93 #[.int .u64 x] w fun e w' => e = .returned (.int .i64 (Lib.bitLen x.toNat)) ∧ w' = w := Any.bits_Len64 Try.lays129 x w h0 h1
def Try.lays111_ren : Go.Shelf.Ren := ⟨fun | 111 => 47 | n => n, fun | 28 => 50 | 3 => 3 | 4 => 4 | 0 => 0 | n => n, fun | n => n⟩
theorem Try.lays111 : Go.Proofs.Lays.n111 Try.prog Try.lays111_ren := {
  mixed := by kernel_rfl
  f111 := Try.func47.trans (congrArg some (by kernel_rfl))
  t0 := Try.underlying0
  a0 := Try.isAgg0
  z0 := Try.sizeOf0
  v0 := Try.zeroValue0
  t3 := Try.underlying3
  a3 := Try.isAgg3
  z3 := Try.sizeOf3
  v3 := Try.zeroValue3
  t4 := Try.underlying4
  a4 := Try.isAgg4
  z4 := Try.sizeOf4
  v4 := Try.zeroValue4
  t28 := Try.underlying50
  a28 := Try.isAgg50
  z28 := Try.sizeOf50
  v28 := Try.zeroValue50 }
open Go.RowKit Go.Lib in
/-- slices.Equal at []int: "Equal reports whether two slices are equal: the same length and all elements equal. If the lengths are different, Equal returns false. Otherwise, the elements are compared in increasing index order, and the comparison stops at the first unequal pair. Empty and nil slices are considered equal.": IT RETURNS WHETHER THE TWO LISTS OF ELEMENTS ARE ONE; the world is as it was but for the count of draws (the test 's1[i] != s2[i]' has two reads, whose order the model draws, once a round). 'xs', 'ys': what the cells behind the two addresses hold (the spare capacity too, if you have it); 'xs.take n', 'ys.take m': the elements. THE TWO SLICES MAY OVERLAP. (LAID: no walk: one application.) -/
theorem Try.slices_Equal_int (b1 o1 n c b2 o2 m d : Nat) (xs ys : List Int) (w : World) (hx : n ≤ xs.length) (hy : m ≤ ys.length) (hbig : n ≤ 9223372036854775807) (hbig2 : m ≤ 9223372036854775807) (hc1 : ∀ j, j < xs.length → w.cell? ⟨b1, o1 + j, none⟩ = some (.int .i64 (xs.getD j 0))) (hc2 : ∀ j, j < ys.length → w.cell? ⟨b2, o2 + j, none⟩ = some (.int .i64 (ys.getD j 0))) :
    Calls Try.prog 47 #[.slice (some ⟨b1, o1, none⟩) n c, .slice (some ⟨b2, o2, none⟩) m d] w fun e w' => e = .returned (.bool (xs.take n == ys.take m)) ∧ ∃ q, w' = w.drewN q := Any.slices_Equal_int Try.lays111 b1 o1 n c b2 o2 m d xs ys w hx hy hbig hbig2 hc1 hc2
open Go.RowKit Go.Lib in
/-- The same where the first is of length 0 (a nil one too): no cell is asked for. (LAID: no walk: one application.) -/
theorem Try.slices_Equal_int_empty (a1 a2 : Option Addr) (c m d : Nat) (w : World) (hbig2 : m ≤ 9223372036854775807) :
    Calls Try.prog 47 #[.slice a1 0 c, .slice a2 m d] w fun e w' => e = .returned (.bool (decide (m = 0))) ∧ w' = w := Any.slices_Equal_int_empty Try.lays111 a1 a2 c m d w hbig2
def Try.laysNm237_ren : Go.Shelf.Ren := ⟨fun | 37 => 83 | n => n, fun | 3 => 3 | 4 => 4 | n => n, fun | n => n⟩
theorem Try.laysNm237 : Go.Proofs.Lays2.n37 Try.prog Try.laysNm237_ren := {
  mixed := by kernel_rfl
  f37 := Try.func83.trans (congrArg some (by kernel_rfl))
  t3 := Try.underlying3
  a3 := Try.isAgg3
  z3 := Try.sizeOf3
  v3 := Try.zeroValue3
  t4 := Try.underlying4
  a4 := Try.isAgg4
  z4 := Try.sizeOf4
  v4 := Try.zeroValue4 }
open Go.RowKit Go.Lib in
/-- cmp.isNaN[int]: 'x != x': false. (LAID: no walk: one application.) -/
theorem Try.cmp_isNaN_int2 (x : Int) (w : World) :
    Calls Try.prog 83 #[.int .i64 x] w fun e w' => e = .returned (.bool false) ∧ w' = w := Any.cmp_isNaN_int2 Try.laysNm237 x w
open Go.RowKit Go.Lib in
theorem Try.slices_Equal_int_lens (a1 a2 : Option Addr) (n c m d : Nat) (w : World) (hnm : n ≠ m) :
    Calls Try.prog 47 #[.slice a1 n c, .slice a2 m d] w fun e w' => e = .returned (.bool false) ∧ w' = w := Any.slices_Equal_int_lens Try.lays111 a1 a2 n c m d w hnm
def Try.laysSlF20_f84_ren : Go.Shelf.Ren := ⟨fun | 20 => 84 | n => n, fun | 24 => 3 | 22 => 50 | 3 => 3 | 25 => 79 | 4 => 4 | 0 => 0 | n => n, fun | n => n⟩
theorem Try.laysSlF20_f84 : Go.Proofs.SlLaysF.n20 Try.prog Try.laysSlF20_f84_ren := {
  mixed := by kernel_rfl
  f20 := ⟨Try.f84.name, by decide, Try.func84.trans (congrArg some (by kernel_rfl))⟩
  t0 := Try.underlying0
  a0 := Try.isAgg0
  z0 := Try.sizeOf0
  v0 := Try.zeroValue0
  t3 := Try.underlying3
  a3 := Try.isAgg3
  z3 := Try.sizeOf3
  v3 := Try.zeroValue3
  t4 := Try.underlying4
  a4 := Try.isAgg4
  z4 := Try.sizeOf4
  v4 := Try.zeroValue4
  t22 := Try.underlying50
  a22 := Try.isAgg50
  z22 := Try.sizeOf50
  v22 := Try.zeroValue50
  a24 := Try.isAgg3
  z24 := Try.sizeOf3
  t25 := Try.underlying79
  a25 := Try.isAgg79
  z25 := Try.sizeOf79
  v25 := Try.zeroValue79 }
open Go.RowKit Go.Lib Go.Sort in
theorem Try.insertionSortCmpFunc_one {α : Type} [Inhabited α] (enc : α → Value) (hO : OneCell enc) (cf : α → α → Int) (g : Nat) (cb : Array Value) (blk off cap a b : Nat) (d : Array α) (w : World) (eg : ∀ args w, (callFunc g args).run Try.prog w = .ok (.enter g args) w) (hcmp : CmpReads Try.prog g cb enc cf blk off d.size w) (hH : Holds enc w blk off d) (hab : a ≤ b) (hb : b ≤ d.size) (hsz : d.size < 4611686018427387904) :
    Calls Try.prog 84 #[.slice (some ⟨blk, off, none⟩) d.size cap, .int .i64 a, .int .i64 b, .func (.func g) #[] cb] w fun e w' =>
      e = .returned (.tuple #[]) ∧ ∃ n, w' = (putRow enc w blk off (Sort.insertionSort (ltOf cf) d a b)).drewN n := Any.insertionSortCmpFunc_one Try.laysSlF20_f84 enc hO cf g cb blk off cap a b d w eg hcmp hH hab hb hsz
def Try.laysSlF46_f94_ren : Go.Shelf.Ren := ⟨fun | 46 => 94 | n => n, fun | 24 => 3 | 22 => 50 | 3 => 3 | 25 => 79 | 4 => 4 | 0 => 0 | n => n, fun | n => n⟩
theorem Try.laysSlF46_f94 : Go.Proofs.SlLaysF.n46 Try.prog Try.laysSlF46_f94_ren := {
  mixed := by kernel_rfl
  f46 := ⟨Try.f94.name, by decide, Try.func94.trans (congrArg some (by kernel_rfl))⟩
  t0 := Try.underlying0
  a0 := Try.isAgg0
  z0 := Try.sizeOf0
  v0 := Try.zeroValue0
  t3 := Try.underlying3
  a3 := Try.isAgg3
  z3 := Try.sizeOf3
  v3 := Try.zeroValue3
  t4 := Try.underlying4
  a4 := Try.isAgg4
  z4 := Try.sizeOf4
  v4 := Try.zeroValue4
  t22 := Try.underlying50
  a22 := Try.isAgg50
  z22 := Try.sizeOf50
  v22 := Try.zeroValue50
  a24 := Try.isAgg3
  z24 := Try.sizeOf3
  t25 := Try.underlying79
  a25 := Try.isAgg79
  z25 := Try.sizeOf79
  v25 := Try.zeroValue79 }
open Go.RowKit Go.Lib Go.Sort in
/-- slices.siftDownCmpFunc at elements of one cell: from a world of the sort's to a world of the sort's. (LAID AT THE INSTANCE 'slices.siftDownCmpFunc[int]': no walk: one application.) -/
theorem Try.siftDownCmpFunc {α : Type} [Inhabited α] (enc : α → Value) (cf : α → α → Int) (g : Nat) (cb : Array Value) (blk off cap lo hi first : Nat) (d0 d : Array α) (w0 w : World) (eg : ∀ args w, (callFunc g args).run Try.prog w = .ok (.enter g args) w) (hcmp : CmpLays1 Try.prog g cb enc cf blk off d0.size w0) (R : Row1 enc w0 blk off d0) (hs : d0.size = d.size) (S : SW enc w0 blk off d w) (hlo : lo ≤ hi) (hb : first + hi ≤ d.size) (hsz : d.size < 4611686018427387904) :
    Calls Try.prog 94 #[.slice (some ⟨blk, off, none⟩) d.size cap, .int .i64 lo, .int .i64 hi, .int .i64 first, .func (.func g) #[] cb] w fun e w' =>
      e = .returned (.tuple #[]) ∧ SW enc w0 blk off (siftDown (ltOf cf) hi first lo d) w' := Any.siftDownCmpFunc Try.laysSlF46_f94 enc cf g cb blk off cap lo hi first d0 d w0 w eg hcmp R hs S hlo hb hsz
def Try.laysSlF21_f85_ren : Go.Shelf.Ren := ⟨fun | 21 => 85 | 46 => 94 | n => n, fun | 24 => 3 | 22 => 50 | 3 => 3 | 25 => 79 | 4 => 4 | 0 => 0 | n => n, fun | n => n⟩
theorem Try.laysSlF21_f85 : Go.Proofs.SlLaysF.n21 Try.prog Try.laysSlF21_f85_ren := {
  mixed := by kernel_rfl
  f21 := ⟨Try.f85.name, by decide, Try.func85.trans (congrArg some (by kernel_rfl))⟩
  f46 := ⟨Try.f94.name, by decide, Try.func94.trans (congrArg some (by kernel_rfl))⟩
  t0 := Try.underlying0
  a0 := Try.isAgg0
  z0 := Try.sizeOf0
  v0 := Try.zeroValue0
  t3 := Try.underlying3
  a3 := Try.isAgg3
  z3 := Try.sizeOf3
  v3 := Try.zeroValue3
  t4 := Try.underlying4
  a4 := Try.isAgg4
  z4 := Try.sizeOf4
  v4 := Try.zeroValue4
  t22 := Try.underlying50
  a22 := Try.isAgg50
  z22 := Try.sizeOf50
  v22 := Try.zeroValue50
  a24 := Try.isAgg3
  z24 := Try.sizeOf3
  t25 := Try.underlying79
  a25 := Try.isAgg79
  z25 := Try.sizeOf79
  v25 := Try.zeroValue79 }
open Go.RowKit Go.Lib Go.Sort in
/-- slices.heapSortCmpFunc at elements of one cell. (LAID AT THE INSTANCE 'slices.heapSortCmpFunc[int]': no walk: one application.) -/
theorem Try.heapSortCmpFunc {α : Type} [Inhabited α] (enc : α → Value) (cf : α → α → Int) (g : Nat) (cb : Array Value) (blk off cap a b : Nat) (d0 d : Array α) (w0 w : World) (eg : ∀ args w, (callFunc g args).run Try.prog w = .ok (.enter g args) w) (hcmp : CmpLays1 Try.prog g cb enc cf blk off d0.size w0) (R : Row1 enc w0 blk off d0) (hs : d0.size = d.size) (S : SW enc w0 blk off d w) (hab : a ≤ b) (hb : b ≤ d.size) (hsz : d.size < 4611686018427387904) :
    Calls Try.prog 85 #[.slice (some ⟨blk, off, none⟩) d.size cap, .int .i64 a, .int .i64 b, .func (.func g) #[] cb] w fun e w' =>
      e = .returned (.tuple #[]) ∧ SW enc w0 blk off (heapSort (ltOf cf) d a b) w' := Any.heapSortCmpFunc Try.laysSlF21_f85 enc cf g cb blk off cap a b d0 d w0 w eg hcmp R hs S hab hb hsz
open Go.RowKit Go.Lib Go.Sort in
/-- slices.insertionSortCmpFunc at elements of one cell: from a world of the sort's to a world of the sort's. (LAID AT THE INSTANCE 'slices.insertionSortCmpFunc[int]': no walk: one application.) -/
theorem Try.insertionSortCmpFunc_s {α : Type} [Inhabited α] (enc : α → Value) (cf : α → α → Int) (g : Nat) (cb : Array Value) (blk off cap a b : Nat) (d0 d : Array α) (w0 w : World) (eg : ∀ args w, (callFunc g args).run Try.prog w = .ok (.enter g args) w) (hcmp : CmpLays1 Try.prog g cb enc cf blk off d0.size w0) (R : Row1 enc w0 blk off d0) (hs : d0.size = d.size) (S : SW enc w0 blk off d w) (hab : a ≤ b) (hb : b ≤ d.size) (hsz : d.size < 4611686018427387904) :
    Calls Try.prog 84 #[.slice (some ⟨blk, off, none⟩) d.size cap, .int .i64 a, .int .i64 b, .func (.func g) #[] cb] w fun e w' => e = .returned (.tuple #[]) ∧ SW enc w0 blk off (Sort.insertionSort (ltOf cf) d a b) w' := Any.insertionSortCmpFunc_s Try.laysSlF20_f84 enc cf g cb blk off cap a b d0 d w0 w eg hcmp R hs S hab hb hsz
def Try.laysSlF57_f99_ren : Go.Shelf.Ren := ⟨fun | 57 => 99 | n => n, fun | 24 => 3 | 22 => 50 | 3 => 3 | 70 => 141 | 25 => 79 | 0 => 0 | 4 => 4 | n => n, fun | n => n⟩
theorem Try.laysSlF57_f99 : Go.Proofs.SlLaysF.n57 Try.prog Try.laysSlF57_f99_ren := {
  mixed := by kernel_rfl
  f57 := ⟨Try.f99.name, by decide, Try.func99.trans (congrArg some (by kernel_rfl))⟩
  t0 := Try.underlying0
  a0 := Try.isAgg0
  z0 := Try.sizeOf0
  v0 := Try.zeroValue0
  t3 := Try.underlying3
  a3 := Try.isAgg3
  z3 := Try.sizeOf3
  v3 := Try.zeroValue3
  t4 := Try.underlying4
  a4 := Try.isAgg4
  z4 := Try.sizeOf4
  v4 := Try.zeroValue4
  t22 := Try.underlying50
  a22 := Try.isAgg50
  z22 := Try.sizeOf50
  v22 := Try.zeroValue50
  a24 := Try.isAgg3
  z24 := Try.sizeOf3
  t25 := Try.underlying79
  a25 := Try.isAgg79
  z25 := Try.sizeOf79
  v25 := Try.zeroValue79
  t70 := Try.underlying141
  a70 := Try.isAgg141
  z70 := Try.sizeOf141
  v70 := Try.zeroValue141 }
open Go.RowKit Go.Lib Go.Sort in
/-- slices.order2CmpFunc at elements of one cell. (LAID AT THE INSTANCE 'slices.order2CmpFunc[int]': no walk: one application.) -/
theorem Try.order2CmpFunc {α : Type} [Inhabited α] (enc : α → Value) (cf : α → α → Int) (g : Nat) (cb : Array Value) (blk off cap a b c s : Nat) (d0 d : Array α) (w0 W : World) (eg : ∀ args w, (callFunc g args).run Try.prog w = .ok (.enter g args) w) (hcmp : CmpLays1 Try.prog g cb enc cf blk off d0.size w0) (R : Row1 enc w0 blk off d0) (hs : d0.size = d.size) (C : Cnt1 enc w0 blk off d c s W) (ha : a < d.size) (hb : b < d.size) (hsz : d.size < 4611686018427387904) (hss : s < 4611686018427387904) :
    Calls Try.prog 99 #[.slice (some ⟨blk, off, none⟩) d.size cap, .int .i64 a, .int .i64 b, .pointer (some ⟨c, 0, none⟩), .func (.func g) #[] cb] W fun e w' =>
      e = .returned (.tuple #[.int .i64 (order2 (ltOf cf) d a b s).1, .int .i64 (order2 (ltOf cf) d a b s).2.1]) ∧ Cnt1 enc w0 blk off d c (order2 (ltOf cf) d a b s).2.2 w' := Any.order2CmpFunc Try.laysSlF57_f99 enc cf g cb blk off cap a b c s d0 d w0 W eg hcmp R hs C ha hb hsz hss
def Try.laysSlF50_f98_ren : Go.Shelf.Ren := ⟨fun | 50 => 98 | 57 => 99 | n => n, fun | 24 => 3 | 22 => 50 | 3 => 3 | 70 => 141 | 25 => 79 | 77 => 61 | 0 => 0 | 4 => 4 | n => n, fun | n => n⟩
theorem Try.laysSlF50_f98 : Go.Proofs.SlLaysF.n50 Try.prog Try.laysSlF50_f98_ren := {
  mixed := by kernel_rfl
  f50 := ⟨Try.f98.name, by decide, Try.func98.trans (congrArg some (by kernel_rfl))⟩
  f57 := ⟨Try.f99.name, by decide, Try.func99.trans (congrArg some (by kernel_rfl))⟩
  t0 := Try.underlying0
  a0 := Try.isAgg0
  z0 := Try.sizeOf0
  v0 := Try.zeroValue0
  t3 := Try.underlying3
  a3 := Try.isAgg3
  z3 := Try.sizeOf3
  v3 := Try.zeroValue3
  t4 := Try.underlying4
  a4 := Try.isAgg4
  z4 := Try.sizeOf4
  v4 := Try.zeroValue4
  t22 := Try.underlying50
  a22 := Try.isAgg50
  z22 := Try.sizeOf50
  v22 := Try.zeroValue50
  a24 := Try.isAgg3
  z24 := Try.sizeOf3
  t25 := Try.underlying79
  a25 := Try.isAgg79
  z25 := Try.sizeOf79
  v25 := Try.zeroValue79
  t70 := Try.underlying141
  a70 := Try.isAgg141
  z70 := Try.sizeOf141
  v70 := Try.zeroValue141
  t77 := Try.underlying61
  a77 := Try.isAgg61
  z77 := Try.sizeOf61
  v77 := Try.zeroValue61 }
open Go.RowKit Go.Lib Go.Sort in
/-- slices.medianCmpFunc at elements of one cell. (LAID AT THE INSTANCE 'slices.medianCmpFunc[int]': no walk: one application.) -/
theorem Try.medianCmpFunc {α : Type} [Inhabited α] (enc : α → Value) (cf : α → α → Int) (g : Nat) (cb : Array Value) (blk off cap a b c' c s : Nat) (d0 d : Array α) (w0 W : World) (eg : ∀ args w, (callFunc g args).run Try.prog w = .ok (.enter g args) w) (hcmp : CmpLays1 Try.prog g cb enc cf blk off d0.size w0) (R : Row1 enc w0 blk off d0) (hs : d0.size = d.size) (C : Cnt1 enc w0 blk off d c s W) (ha : a < d.size) (hb : b < d.size) (hc : c' < d.size) (hsz : d.size < 4611686018427387904) (hss : s + 3 < 4611686018427387904) :
    Calls Try.prog 98 #[.slice (some ⟨blk, off, none⟩) d.size cap, .int .i64 a, .int .i64 b, .int .i64 c', .pointer (some ⟨c, 0, none⟩), .func (.func g) #[] cb] W fun e w' =>
      e = .returned (.int .i64 (median (ltOf cf) d a b c' s).1) ∧ Cnt1 enc w0 blk off d c (median (ltOf cf) d a b c' s).2 w' := Any.medianCmpFunc Try.laysSlF50_f98 enc cf g cb blk off cap a b c' c s d0 d w0 W eg hcmp R hs C ha hb hc hsz hss
def Try.laysSlF49_f97_ren : Go.Shelf.Ren := ⟨fun | 49 => 97 | 50 => 98 | 57 => 99 | n => n, fun | 24 => 3 | 22 => 50 | 3 => 3 | 70 => 141 | 25 => 79 | 77 => 61 | 0 => 0 | 4 => 4 | n => n, fun | n => n⟩
theorem Try.laysSlF49_f97 : Go.Proofs.SlLaysF.n49 Try.prog Try.laysSlF49_f97_ren := {
  mixed := by kernel_rfl
  f49 := ⟨Try.f97.name, by decide, Try.func97.trans (congrArg some (by kernel_rfl))⟩
  f50 := ⟨Try.f98.name, by decide, Try.func98.trans (congrArg some (by kernel_rfl))⟩
  f57 := ⟨Try.f99.name, by decide, Try.func99.trans (congrArg some (by kernel_rfl))⟩
  t0 := Try.underlying0
  a0 := Try.isAgg0
  z0 := Try.sizeOf0
  v0 := Try.zeroValue0
  t3 := Try.underlying3
  a3 := Try.isAgg3
  z3 := Try.sizeOf3
  v3 := Try.zeroValue3
  t4 := Try.underlying4
  a4 := Try.isAgg4
  z4 := Try.sizeOf4
  v4 := Try.zeroValue4
  t22 := Try.underlying50
  a22 := Try.isAgg50
  z22 := Try.sizeOf50
  v22 := Try.zeroValue50
  a24 := Try.isAgg3
  z24 := Try.sizeOf3
  t25 := Try.underlying79
  a25 := Try.isAgg79
  z25 := Try.sizeOf79
  v25 := Try.zeroValue79
  t70 := Try.underlying141
  a70 := Try.isAgg141
  z70 := Try.sizeOf141
  v70 := Try.zeroValue141
  t77 := Try.underlying61
  a77 := Try.isAgg61
  z77 := Try.sizeOf61
  v77 := Try.zeroValue61 }
open Go.RowKit Go.Lib Go.Sort in
/-- slices.medianAdjacentCmpFunc at elements of one cell. (LAID AT THE INSTANCE 'slices.medianAdjacentCmpFunc[int]': no walk: one application.) -/
theorem Try.medianAdjacentCmpFunc {α : Type} [Inhabited α] (enc : α → Value) (cf : α → α → Int) (g : Nat) (cb : Array Value) (blk off cap a c s : Nat) (d0 d : Array α) (w0 W : World) (eg : ∀ args w, (callFunc g args).run Try.prog w = .ok (.enter g args) w) (hcmp : CmpLays1 Try.prog g cb enc cf blk off d0.size w0) (R : Row1 enc w0 blk off d0) (hs : d0.size = d.size) (C : Cnt1 enc w0 blk off d c s W) (ha1 : 1 ≤ a) (ha2 : a + 1 < d.size) (hsz : d.size < 4611686018427387904) (hss : s + 3 < 4611686018427387904) :
    Calls Try.prog 97 #[.slice (some ⟨blk, off, none⟩) d.size cap, .int .i64 a, .pointer (some ⟨c, 0, none⟩), .func (.func g) #[] cb] W fun e w' =>
      e = .returned (.int .i64 (medianAdjacent (ltOf cf) d a s).1) ∧ Cnt1 enc w0 blk off d c (medianAdjacent (ltOf cf) d a s).2 w' := Any.medianAdjacentCmpFunc Try.laysSlF49_f97 enc cf g cb blk off cap a c s d0 d w0 W eg hcmp R hs C ha1 ha2 hsz hss
def Try.laysSlF23_f87_ren : Go.Shelf.Ren := ⟨fun | 23 => 87 | 49 => 97 | 50 => 98 | 57 => 99 | n => n, fun | 24 => 3 | 22 => 50 | 3 => 3 | 25 => 79 | 45 => 127 | 0 => 0 | 4 => 4 | 70 => 141 | 77 => 61 | n => n, fun | n => n⟩
theorem Try.laysSlF23_f87 : Go.Proofs.SlLaysF.n23 Try.prog Try.laysSlF23_f87_ren := {
  mixed := by kernel_rfl
  f23 := ⟨Try.f87.name, by decide, Try.func87.trans (congrArg some (by kernel_rfl))⟩
  f49 := ⟨Try.f97.name, by decide, Try.func97.trans (congrArg some (by kernel_rfl))⟩
  f50 := ⟨Try.f98.name, by decide, Try.func98.trans (congrArg some (by kernel_rfl))⟩
  f57 := ⟨Try.f99.name, by decide, Try.func99.trans (congrArg some (by kernel_rfl))⟩
  t0 := Try.underlying0
  a0 := Try.isAgg0
  z0 := Try.sizeOf0
  v0 := Try.zeroValue0
  t3 := Try.underlying3
  a3 := Try.isAgg3
  z3 := Try.sizeOf3
  v3 := Try.zeroValue3
  t4 := Try.underlying4
  a4 := Try.isAgg4
  z4 := Try.sizeOf4
  v4 := Try.zeroValue4
  t22 := Try.underlying50
  a22 := Try.isAgg50
  z22 := Try.sizeOf50
  v22 := Try.zeroValue50
  a24 := Try.isAgg3
  z24 := Try.sizeOf3
  t25 := Try.underlying79
  a25 := Try.isAgg79
  z25 := Try.sizeOf79
  v25 := Try.zeroValue79
  t45 := Try.underlying127
  a45 := Try.isAgg127
  z45 := Try.sizeOf127
  v45 := Try.zeroValue127
  t70 := Try.underlying141
  a70 := Try.isAgg141
  z70 := Try.sizeOf141
  v70 := Try.zeroValue141
  t77 := Try.underlying61
  a77 := Try.isAgg61
  z77 := Try.sizeOf61
  v77 := Try.zeroValue61 }
open Go.RowKit Go.Lib Go.Sort in
/-- slices.choosePivotCmpFunc at elements of one cell: THE LIBRARY's OWN TEXT COMPUTES 'Sort.choosePivot (ltOf cf) d a b'; the row is not turned. (After Derived/Shelf/SlSortFuncK/PivotK.lean, row for row; the counter's world by 'CntK'.) (LAID AT THE INSTANCE 'slices.choosePivotCmpFunc[int]': no walk: one application.) -/
theorem Try.choosePivotCmpFunc {α : Type} [Inhabited α] (enc : α → Value) (cf : α → α → Int) (g : Nat) (cb : Array Value) (blk off cap a b : Nat) (d0 d : Array α) (w0 W : World) (eg : ∀ args w, (callFunc g args).run Try.prog w = .ok (.enter g args) w) (hcmp : CmpLays1 Try.prog g cb enc cf blk off d0.size w0) (R : Row1 enc w0 blk off d0) (hs : d0.size = d.size) (S : SW enc w0 blk off d W) (hab : a < b) (hb : b ≤ d.size) (hsz : d.size < 4611686018427387904) :
    Calls Try.prog 87 #[.slice (some ⟨blk, off, none⟩) d.size cap, .int .i64 a, .int .i64 b, .func (.func g) #[] cb] W fun e w' =>
      e = .returned (.tuple #[.int .i64 (choosePivot (ltOf cf) d a b).1, .int .i64 (hintCode (choosePivot (ltOf cf) d a b).2)]) ∧ SW enc w0 blk off d w' := Any.choosePivotCmpFunc Try.laysSlF23_f87 enc cf g cb blk off cap a b d0 d w0 W eg hcmp R hs S hab hb hsz
def Try.laysSlF24_f88_ren : Go.Shelf.Ren := ⟨fun | 24 => 88 | n => n, fun | 24 => 3 | 22 => 50 | 3 => 3 | 25 => 79 | 4 => 4 | 0 => 0 | n => n, fun | n => n⟩
theorem Try.laysSlF24_f88 : Go.Proofs.SlLaysF.n24 Try.prog Try.laysSlF24_f88_ren := {
  mixed := by kernel_rfl
  f24 := ⟨Try.f88.name, by decide, Try.func88.trans (congrArg some (by kernel_rfl))⟩
  t0 := Try.underlying0
  a0 := Try.isAgg0
  z0 := Try.sizeOf0
  v0 := Try.zeroValue0
  t3 := Try.underlying3
  a3 := Try.isAgg3
  z3 := Try.sizeOf3
  v3 := Try.zeroValue3
  t4 := Try.underlying4
  a4 := Try.isAgg4
  z4 := Try.sizeOf4
  v4 := Try.zeroValue4
  t22 := Try.underlying50
  a22 := Try.isAgg50
  z22 := Try.sizeOf50
  v22 := Try.zeroValue50
  a24 := Try.isAgg3
  z24 := Try.sizeOf3
  t25 := Try.underlying79
  a25 := Try.isAgg79
  z25 := Try.sizeOf79
  v25 := Try.zeroValue79 }
open Go.RowKit Go.Lib Go.Sort in
/-- slices.reverseRangeCmpFunc at elements of one cell: it exchanges and does not compare. (LAID AT THE INSTANCE 'slices.reverseRangeCmpFunc[int]': no walk: one application.) -/
theorem Try.reverseRangeCmpFunc {α : Type} [Inhabited α] (enc : α → Value) (g : Nat) (cb : Array Value) (blk off cap a b : Nat) (d0 d : Array α) (w0 w : World) (R : Row1 enc w0 blk off d0) (hs : d0.size = d.size) (S : SW enc w0 blk off d w) (hab : a ≤ b) (hb : b ≤ d.size) (hsz : d.size < 4611686018427387904) :
    Calls Try.prog 88 #[.slice (some ⟨blk, off, none⟩) d.size cap, .int .i64 a, .int .i64 b, .func (.func g) #[] cb] w fun e w' => e = .returned (.tuple #[]) ∧ SW enc w0 blk off (reverseRange d a b) w' := Any.reverseRangeCmpFunc Try.laysSlF24_f88 enc g cb blk off cap a b d0 d w0 w R hs S hab hb hsz
def Try.laysSlF25_f89_ren : Go.Shelf.Ren := ⟨fun | 25 => 89 | n => n, fun | 24 => 3 | 22 => 50 | 3 => 3 | 25 => 79 | 4 => 4 | 0 => 0 | n => n, fun | n => n⟩
theorem Try.laysSlF25_f89 : Go.Proofs.SlLaysF.n25 Try.prog Try.laysSlF25_f89_ren := {
  mixed := by kernel_rfl
  f25 := ⟨Try.f89.name, by decide, Try.func89.trans (congrArg some (by kernel_rfl))⟩
  t0 := Try.underlying0
  a0 := Try.isAgg0
  z0 := Try.sizeOf0
  v0 := Try.zeroValue0
  t3 := Try.underlying3
  a3 := Try.isAgg3
  z3 := Try.sizeOf3
  v3 := Try.zeroValue3
  t4 := Try.underlying4
  a4 := Try.isAgg4
  z4 := Try.sizeOf4
  v4 := Try.zeroValue4
  t22 := Try.underlying50
  a22 := Try.isAgg50
  z22 := Try.sizeOf50
  v22 := Try.zeroValue50
  a24 := Try.isAgg3
  z24 := Try.sizeOf3
  t25 := Try.underlying79
  a25 := Try.isAgg79
  z25 := Try.sizeOf79
  v25 := Try.zeroValue79 }
open Go.RowKit Go.Lib Go.Sort in
/-- slices.partialInsertionSortCmpFunc at elements of one cell. (LAID AT THE INSTANCE 'slices.partialInsertionSortCmpFunc[int]': no walk: one application.) -/
theorem Try.partialInsertionSortCmpFunc {α : Type} [Inhabited α] (enc : α → Value) (cf : α → α → Int) (g : Nat) (cb : Array Value) (blk off cap a b : Nat) (d0 d : Array α) (w0 w : World) (eg : ∀ args w, (callFunc g args).run Try.prog w = .ok (.enter g args) w) (hcmp : CmpLays1 Try.prog g cb enc cf blk off d0.size w0) (R : Row1 enc w0 blk off d0) (hs : d0.size = d.size) (S : SW enc w0 blk off d w) (hab : a < b) (hb : b ≤ d.size) (hsz : d.size < 4611686018427387904) :
    Calls Try.prog 89 #[.slice (some ⟨blk, off, none⟩) d.size cap, .int .i64 a, .int .i64 b, .func (.func g) #[] cb] w fun e w' =>
      e = .returned (.bool (Sort.partialInsertionSort (ltOf cf) d a b).2) ∧ SW enc w0 blk off (Sort.partialInsertionSort (ltOf cf) d a b).1 w' := Any.partialInsertionSortCmpFunc Try.laysSlF25_f89 enc cf g cb blk off cap a b d0 d w0 w eg hcmp R hs S hab hb hsz
def Try.laysSlF26_f90_ren : Go.Shelf.Ren := ⟨fun | 26 => 90 | n => n, fun | 24 => 3 | 22 => 50 | 3 => 3 | 25 => 79 | 0 => 0 | 4 => 4 | n => n, fun | n => n⟩
theorem Try.laysSlF26_f90 : Go.Proofs.SlLaysF.n26 Try.prog Try.laysSlF26_f90_ren := {
  mixed := by kernel_rfl
  f26 := ⟨Try.f90.name, by decide, Try.func90.trans (congrArg some (by kernel_rfl))⟩
  t0 := Try.underlying0
  a0 := Try.isAgg0
  z0 := Try.sizeOf0
  v0 := Try.zeroValue0
  t3 := Try.underlying3
  a3 := Try.isAgg3
  z3 := Try.sizeOf3
  v3 := Try.zeroValue3
  t4 := Try.underlying4
  a4 := Try.isAgg4
  z4 := Try.sizeOf4
  v4 := Try.zeroValue4
  t22 := Try.underlying50
  a22 := Try.isAgg50
  z22 := Try.sizeOf50
  v22 := Try.zeroValue50
  a24 := Try.isAgg3
  z24 := Try.sizeOf3
  t25 := Try.underlying79
  a25 := Try.isAgg79
  z25 := Try.sizeOf79
  v25 := Try.zeroValue79 }
open Go.RowKit Go.Lib Go.Sort in
/-- slices.partitionEqualCmpFunc at elements of one cell. (After Derived/Shelf/SlSortFuncK/PartitionK.lean, row for row.) (LAID AT THE INSTANCE 'slices.partitionEqualCmpFunc[int]': no walk: one application.) -/
theorem Try.partitionEqualCmpFunc {α : Type} [Inhabited α] (enc : α → Value) (cf : α → α → Int) (g : Nat) (cb : Array Value) (blk off cap a b pivot : Nat) (d0 d : Array α) (w0 w : World) (eg : ∀ args w, (callFunc g args).run Try.prog w = .ok (.enter g args) w) (hcmp : CmpLays1 Try.prog g cb enc cf blk off d0.size w0) (R : Row1 enc w0 blk off d0) (hs : d0.size = d.size) (S : SW enc w0 blk off d w) (hap : a ≤ pivot) (hpb : pivot < b) (hb : b ≤ d.size) (hsz : d.size < 4611686018427387904) :
    Calls Try.prog 90 #[.slice (some ⟨blk, off, none⟩) d.size cap, .int .i64 a, .int .i64 b, .int .i64 pivot, .func (.func g) #[] cb] w fun e w' =>
      e = .returned (.int .i64 (Sort.partitionEqual (ltOf cf) d a b pivot).1) ∧ SW enc w0 blk off (Sort.partitionEqual (ltOf cf) d a b pivot).2 w' := Any.partitionEqualCmpFunc Try.laysSlF26_f90 enc cf g cb blk off cap a b pivot d0 d w0 w eg hcmp R hs S hap hpb hb hsz
def Try.laysSlF27_f91_ren : Go.Shelf.Ren := ⟨fun | 27 => 91 | n => n, fun | 24 => 3 | 22 => 50 | 3 => 3 | 25 => 79 | 4 => 4 | 0 => 0 | n => n, fun | n => n⟩
theorem Try.laysSlF27_f91 : Go.Proofs.SlLaysF.n27 Try.prog Try.laysSlF27_f91_ren := {
  mixed := by kernel_rfl
  f27 := ⟨Try.f91.name, by decide, Try.func91.trans (congrArg some (by kernel_rfl))⟩
  t0 := Try.underlying0
  a0 := Try.isAgg0
  z0 := Try.sizeOf0
  v0 := Try.zeroValue0
  t3 := Try.underlying3
  a3 := Try.isAgg3
  z3 := Try.sizeOf3
  v3 := Try.zeroValue3
  t4 := Try.underlying4
  a4 := Try.isAgg4
  z4 := Try.sizeOf4
  v4 := Try.zeroValue4
  t22 := Try.underlying50
  a22 := Try.isAgg50
  z22 := Try.sizeOf50
  v22 := Try.zeroValue50
  a24 := Try.isAgg3
  z24 := Try.sizeOf3
  t25 := Try.underlying79
  a25 := Try.isAgg79
  z25 := Try.sizeOf79
  v25 := Try.zeroValue79 }
open Go.RowKit Go.Lib Go.Sort in
/-- slices.partitionCmpFunc at elements of one cell. (After Derived/Shelf/SlSortFuncK/PartitionK.lean, row for row.) (LAID AT THE INSTANCE 'slices.partitionCmpFunc[int]': no walk: one application.) -/
theorem Try.partitionCmpFunc {α : Type} [Inhabited α] (enc : α → Value) (cf : α → α → Int) (g : Nat) (cb : Array Value) (blk off cap a b pivot : Nat) (d0 d : Array α) (w0 w : World) (eg : ∀ args w, (callFunc g args).run Try.prog w = .ok (.enter g args) w) (hcmp : CmpLays1 Try.prog g cb enc cf blk off d0.size w0) (R : Row1 enc w0 blk off d0) (hs : d0.size = d.size) (S : SW enc w0 blk off d w) (hap : a ≤ pivot) (hpb : pivot < b) (hb : b ≤ d.size) (hsz : d.size < 4611686018427387904) :
    Calls Try.prog 91 #[.slice (some ⟨blk, off, none⟩) d.size cap, .int .i64 a, .int .i64 b, .int .i64 pivot, .func (.func g) #[] cb] w fun e w' =>
      e = .returned (.tuple #[.int .i64 (Sort.partition (ltOf cf) d a b pivot).1, .bool (Sort.partition (ltOf cf) d a b pivot).2.1]) ∧ SW enc w0 blk off (Sort.partition (ltOf cf) d a b pivot).2.2 w' := Any.partitionCmpFunc Try.laysSlF27_f91 enc cf g cb blk off cap a b pivot d0 d w0 w eg hcmp R hs S hap hpb hb hsz
def Try.laysSlF14_f79_ren : Go.Shelf.Ren := ⟨fun | 14 => 79 | 20 => 84 | 21 => 85 | 22 => 86 | 23 => 87 | 24 => 88 | 25 => 89 | 26 => 90 | 27 => 91 | 46 => 94 | 47 => 95 | 48 => 96 | 49 => 97 | 50 => 98 | 15 => 80 | 57 => 99 | 28 => 92 | 29 => 93 | n => n, fun | 24 => 3 | 22 => 50 | 3 => 3 | 25 => 79 | 4 => 4 | 0 => 0 | 46 => 128 | 45 => 127 | 50 => 117 | 66 => 137 | 39 => 124 | 55 => 136 | 70 => 141 | 76 => 143 | 77 => 61 | 53 => 134 | 5 => 5 | 9 => 9 | n => n, fun | n => n⟩
theorem Try.laysSlF14_f79 : Go.Proofs.SlLaysF.n14 Try.prog Try.laysSlF14_f79_ren := {
  mixed := by kernel_rfl
  f14 := ⟨Try.f79.name, by decide, Try.func79.trans (congrArg some (by kernel_rfl))⟩
  f15 := Try.func80.trans (congrArg some (by kernel_rfl))
  f20 := ⟨Try.f84.name, by decide, Try.func84.trans (congrArg some (by kernel_rfl))⟩
  f21 := ⟨Try.f85.name, by decide, Try.func85.trans (congrArg some (by kernel_rfl))⟩
  f22 := ⟨Try.f86.name, by decide, Try.func86.trans (congrArg some (by kernel_rfl))⟩
  f23 := ⟨Try.f87.name, by decide, Try.func87.trans (congrArg some (by kernel_rfl))⟩
  f24 := ⟨Try.f88.name, by decide, Try.func88.trans (congrArg some (by kernel_rfl))⟩
  f25 := ⟨Try.f89.name, by decide, Try.func89.trans (congrArg some (by kernel_rfl))⟩
  f26 := ⟨Try.f90.name, by decide, Try.func90.trans (congrArg some (by kernel_rfl))⟩
  f27 := ⟨Try.f91.name, by decide, Try.func91.trans (congrArg some (by kernel_rfl))⟩
  f28 := Try.func92.trans (congrArg some (by kernel_rfl))
  f29 := Try.func93.trans (congrArg some (by kernel_rfl))
  f46 := ⟨Try.f94.name, by decide, Try.func94.trans (congrArg some (by kernel_rfl))⟩
  f47 := Try.func95.trans (congrArg some (by kernel_rfl))
  f48 := Try.func96.trans (congrArg some (by kernel_rfl))
  f49 := ⟨Try.f97.name, by decide, Try.func97.trans (congrArg some (by kernel_rfl))⟩
  f50 := ⟨Try.f98.name, by decide, Try.func98.trans (congrArg some (by kernel_rfl))⟩
  f57 := ⟨Try.f99.name, by decide, Try.func99.trans (congrArg some (by kernel_rfl))⟩
  t0 := Try.underlying0
  a0 := Try.isAgg0
  z0 := Try.sizeOf0
  v0 := Try.zeroValue0
  t3 := Try.underlying3
  a3 := Try.isAgg3
  z3 := Try.sizeOf3
  v3 := Try.zeroValue3
  t4 := Try.underlying4
  a4 := Try.isAgg4
  z4 := Try.sizeOf4
  v4 := Try.zeroValue4
  t5 := Try.underlying5
  a5 := Try.isAgg5
  z5 := Try.sizeOf5
  v5 := Try.zeroValue5
  t9 := Try.underlying9
  a9 := Try.isAgg9
  z9 := Try.sizeOf9
  v9 := Try.zeroValue9
  t22 := Try.underlying50
  a22 := Try.isAgg50
  z22 := Try.sizeOf50
  v22 := Try.zeroValue50
  a24 := Try.isAgg3
  z24 := Try.sizeOf3
  t25 := Try.underlying79
  a25 := Try.isAgg79
  z25 := Try.sizeOf79
  v25 := Try.zeroValue79
  t39 := Try.underlying124
  a39 := Try.isAgg124
  z39 := Try.sizeOf124
  v39 := Try.zeroValue124
  t45 := Try.underlying127
  a45 := Try.isAgg127
  z45 := Try.sizeOf127
  v45 := Try.zeroValue127
  t46 := Try.underlying128
  a46 := Try.isAgg128
  z46 := Try.sizeOf128
  v46 := Try.zeroValue128
  t50 := Try.underlying117
  a50 := Try.isAgg117
  z50 := Try.sizeOf117
  v50 := Try.zeroValue117
  t53 := Try.underlying134
  a53 := Try.isAgg134
  z53 := Try.sizeOf134
  v53 := Try.zeroValue134
  t55 := Try.underlying136
  a55 := Try.isAgg136
  z55 := Try.sizeOf136
  v55 := Try.zeroValue136
  t66 := Try.underlying137
  a66 := Try.isAgg137
  z66 := Try.sizeOf137
  v66 := Try.zeroValue137
  t70 := Try.underlying141
  a70 := Try.isAgg141
  z70 := Try.sizeOf141
  v70 := Try.zeroValue141
  t76 := Try.underlying143
  a76 := Try.isAgg143
  z76 := Try.sizeOf143
  v76 := Try.zeroValue143
  t77 := Try.underlying61
  a77 := Try.isAgg61
  z77 := Try.sizeOf61
  v77 := Try.zeroValue61 }
open Go.RowKit Go.Lib Go.Sort in
/-- slices.pdqsortCmpFunc at elements of one cell, WHOLE. (After Derived/Shelf/SlSortFuncK/PdqK.lean, row for row: the slots and the regions' numbers are this body's.) (LAID AT THE INSTANCE 'slices.pdqsortCmpFunc[int]': no walk: one application.) -/
theorem Try.pdqsortCmpFunc_all {α : Type} [Inhabited α] (enc : α → Value) (cf : α → α → Int) (g : Nat) (cb : Array Value) (hO : SWO (ltOf cf)) (blk off cap : Nat) (d0 : Array α) (w0 : World) (eg : ∀ args w, (callFunc g args).run Try.prog w = .ok (.enter g args) w) (hcmp : CmpLays1 Try.prog g cb enc cf blk off d0.size w0) (R : Row1 enc w0 blk off d0) :
    ∀ (N a b limit : Nat) (d : Array α) (w : World), b - a < N → d0.size = d.size → SW enc w0 blk off d w → a ≤ b → b ≤ d.size → d.size < 4611686018427387904 → limit < 4611686018427387904 → Below (ltOf cf) a b d →
    Calls Try.prog 79 #[.slice (some ⟨blk, off, none⟩) d.size cap, .int .i64 a, .int .i64 b, .int .i64 limit, .func (.func g) #[] cb] w fun e w' => e = .returned (.tuple #[]) ∧ SW enc w0 blk off (pdq (ltOf cf) d a b limit true true) w' := Any.pdqsortCmpFunc_all Try.laysSlF14_f79 enc cf g cb hO blk off cap d0 w0 eg hcmp R
def Try.laysSlF6_f62_ren : Go.Shelf.Ren := ⟨fun | 6 => 62 | 15 => 80 | 14 => 79 | 28 => 92 | 29 => 93 | 20 => 84 | 21 => 85 | 22 => 86 | 23 => 87 | 24 => 88 | 25 => 89 | 26 => 90 | 27 => 91 | 46 => 94 | 47 => 95 | 48 => 96 | 49 => 97 | 50 => 98 | 57 => 99 | n => n, fun | 22 => 50 | 24 => 3 | 25 => 79 | 3 => 3 | 39 => 124 | 0 => 0 | 53 => 134 | 55 => 136 | 4 => 4 | 46 => 128 | 45 => 127 | 50 => 117 | 5 => 5 | 9 => 9 | 66 => 137 | 70 => 141 | 76 => 143 | 77 => 61 | n => n, fun | n => n⟩
theorem Try.laysSlF6_f62 : Go.Proofs.SlLaysF.n6 Try.prog Try.laysSlF6_f62_ren := {
  mixed := by kernel_rfl
  f6 := ⟨Try.f62.name, by decide, Try.func62.trans (congrArg some (by kernel_rfl))⟩
  f14 := ⟨Try.f79.name, by decide, Try.func79.trans (congrArg some (by kernel_rfl))⟩
  f15 := Try.func80.trans (congrArg some (by kernel_rfl))
  f20 := ⟨Try.f84.name, by decide, Try.func84.trans (congrArg some (by kernel_rfl))⟩
  f21 := ⟨Try.f85.name, by decide, Try.func85.trans (congrArg some (by kernel_rfl))⟩
  f22 := ⟨Try.f86.name, by decide, Try.func86.trans (congrArg some (by kernel_rfl))⟩
  f23 := ⟨Try.f87.name, by decide, Try.func87.trans (congrArg some (by kernel_rfl))⟩
  f24 := ⟨Try.f88.name, by decide, Try.func88.trans (congrArg some (by kernel_rfl))⟩
  f25 := ⟨Try.f89.name, by decide, Try.func89.trans (congrArg some (by kernel_rfl))⟩
  f26 := ⟨Try.f90.name, by decide, Try.func90.trans (congrArg some (by kernel_rfl))⟩
  f27 := ⟨Try.f91.name, by decide, Try.func91.trans (congrArg some (by kernel_rfl))⟩
  f28 := Try.func92.trans (congrArg some (by kernel_rfl))
  f29 := Try.func93.trans (congrArg some (by kernel_rfl))
  f46 := ⟨Try.f94.name, by decide, Try.func94.trans (congrArg some (by kernel_rfl))⟩
  f47 := Try.func95.trans (congrArg some (by kernel_rfl))
  f48 := Try.func96.trans (congrArg some (by kernel_rfl))
  f49 := ⟨Try.f97.name, by decide, Try.func97.trans (congrArg some (by kernel_rfl))⟩
  f50 := ⟨Try.f98.name, by decide, Try.func98.trans (congrArg some (by kernel_rfl))⟩
  f57 := ⟨Try.f99.name, by decide, Try.func99.trans (congrArg some (by kernel_rfl))⟩
  t0 := Try.underlying0
  a0 := Try.isAgg0
  z0 := Try.sizeOf0
  v0 := Try.zeroValue0
  t3 := Try.underlying3
  a3 := Try.isAgg3
  z3 := Try.sizeOf3
  v3 := Try.zeroValue3
  t4 := Try.underlying4
  a4 := Try.isAgg4
  z4 := Try.sizeOf4
  v4 := Try.zeroValue4
  t5 := Try.underlying5
  a5 := Try.isAgg5
  z5 := Try.sizeOf5
  v5 := Try.zeroValue5
  t9 := Try.underlying9
  a9 := Try.isAgg9
  z9 := Try.sizeOf9
  v9 := Try.zeroValue9
  t22 := Try.underlying50
  a22 := Try.isAgg50
  z22 := Try.sizeOf50
  v22 := Try.zeroValue50
  a24 := Try.isAgg3
  z24 := Try.sizeOf3
  t25 := Try.underlying79
  a25 := Try.isAgg79
  z25 := Try.sizeOf79
  v25 := Try.zeroValue79
  t39 := Try.underlying124
  a39 := Try.isAgg124
  z39 := Try.sizeOf124
  v39 := Try.zeroValue124
  t45 := Try.underlying127
  a45 := Try.isAgg127
  z45 := Try.sizeOf127
  v45 := Try.zeroValue127
  t46 := Try.underlying128
  a46 := Try.isAgg128
  z46 := Try.sizeOf128
  v46 := Try.zeroValue128
  t50 := Try.underlying117
  a50 := Try.isAgg117
  z50 := Try.sizeOf117
  v50 := Try.zeroValue117
  t53 := Try.underlying134
  a53 := Try.isAgg134
  z53 := Try.sizeOf134
  v53 := Try.zeroValue134
  t55 := Try.underlying136
  a55 := Try.isAgg136
  z55 := Try.sizeOf136
  v55 := Try.zeroValue136
  t66 := Try.underlying137
  a66 := Try.isAgg137
  z66 := Try.sizeOf137
  v66 := Try.zeroValue137
  t70 := Try.underlying141
  a70 := Try.isAgg141
  z70 := Try.sizeOf141
  v70 := Try.zeroValue141
  t76 := Try.underlying143
  a76 := Try.isAgg143
  z76 := Try.sizeOf143
  v76 := Try.zeroValue143
  t77 := Try.underlying61
  a77 := Try.isAgg61
  z77 := Try.sizeOf61
  v77 := Try.zeroValue61 }
open Go.RowKit Go.Lib Go.Sort in
/-- **slices.SortFunc: WHAT THE ROW HOLDS, TO THE ELEMENT.** (LAID AT THE INSTANCE 'slices.SortFunc[[]int,int]': no walk: one application.) -/
theorem Try.slices_SortFunc_eq {α : Type} [Inhabited α] (enc : α → Value) (h1 : OneCell enc) (cf : α → α → Int) (hO : SWO (ltOf cf)) (g : Nat) (cb : Array Value) (blk off cap : Nat) (d : Array α) (w : World) (eg : ∀ args w, (callFunc g args).run Try.prog w = .ok (.enter g args) w) (hcmp : CmpLays1 Try.prog g cb enc cf blk off d.size w) (hH : Holds enc w blk off d) (hblk : blk < w.heap.size) (hsz : d.size < 4611686018427387904) :
    Calls Try.prog 62 #[.slice (some ⟨blk, off, none⟩) d.size cap, .func (.func g) #[] cb] w fun e w' =>
      e = .returned (.tuple #[]) ∧ ∃ n os, w' = sortWorld enc w blk off n (pdq (ltOf cf) d 0 d.size (Lib.bitLen d.size) true true) os := Any.slices_SortFunc_eq Try.laysSlF6_f62 enc h1 cf hO g cb blk off cap d w eg hcmp hH hblk hsz
open Go.RowKit Go.Lib Go.Sort in
/-- **slices.SortFunc, IN THE DOCUMENTATION's OWN TERMS: A PERMUTATION OF WHAT THE ROW HELD, SORTED BY 'cmp(a, b) < 0'.** Which of two equals comes first is left open ("The sort is not guaranteed to be stable"). (LAID AT THE INSTANCE 'slices.SortFunc[[]int,int]': no walk: one application.) -/
theorem Try.slices_SortFunc {α : Type} [Inhabited α] (enc : α → Value) (h1 : OneCell enc) (cf : α → α → Int) (hO : SWO (ltOf cf)) (g : Nat) (cb : Array Value) (blk off cap : Nat) (d : Array α) (w : World) (eg : ∀ args w, (callFunc g args).run Try.prog w = .ok (.enter g args) w) (hcmp : CmpLays1 Try.prog g cb enc cf blk off d.size w) (hH : Holds enc w blk off d) (hblk : blk < w.heap.size) (hsz : d.size < 4611686018427387904) :
    Calls Try.prog 62 #[.slice (some ⟨blk, off, none⟩) d.size cap, .func (.func g) #[] cb] w fun e w' =>
      e = .returned (.tuple #[]) ∧ ∃ d' n os, PermIn 0 d.size d d' ∧ SortedIn (ltOf cf) 0 d.size d' ∧ w' = sortWorld enc w blk off n d' os := Any.slices_SortFunc Try.laysSlF6_f62 enc h1 cf hO g cb blk off cap d w eg hcmp hH hblk hsz
def Try.laysSlF020_f84_ren : Go.Shelf.Ren := ⟨fun | 20 => 84 | n => n, fun | 24 => 3 | 22 => 50 | 3 => 3 | 25 => 79 | 4 => 4 | 0 => 0 | n => n, fun | n => n⟩
theorem Try.laysSlF020_f84 : Go.Proofs.SlLaysF0.n20 Try.prog Try.laysSlF020_f84_ren := {
  mixed := by kernel_rfl
  f20 := ⟨Try.f84.name, by decide, Try.func84.trans (congrArg some (by kernel_rfl))⟩
  t0 := Try.underlying0
  a0 := Try.isAgg0
  z0 := Try.sizeOf0
  v0 := Try.zeroValue0
  t3 := Try.underlying3
  a3 := Try.isAgg3
  z3 := Try.sizeOf3
  v3 := Try.zeroValue3
  t4 := Try.underlying4
  a4 := Try.isAgg4
  z4 := Try.sizeOf4
  v4 := Try.zeroValue4
  t22 := Try.underlying50
  a22 := Try.isAgg50
  z22 := Try.sizeOf50
  v22 := Try.zeroValue50
  t25 := Try.underlying79
  a25 := Try.isAgg79
  z25 := Try.sizeOf79
  v25 := Try.zeroValue79 }
open Go.RowKit Go.Lib Go.Sort in
theorem Try.insertionSortCmpFunc_none {α : Type} [Inhabited α] (p : Option Addr) (cap : Nat) (fv : Value) (w : World) :
    Calls Try.prog 84 #[.slice p 0 cap, .int .i64 0, .int .i64 0, fv] w fun e w' => e = .returned (.tuple #[]) ∧ w' = w := AnyF.insertionSortCmpFunc_none Try.laysSlF020_f84 p cap fv w
def Try.laysSlF014_f79_ren : Go.Shelf.Ren := ⟨fun | 14 => 79 | 20 => 84 | 21 => 85 | 22 => 86 | 23 => 87 | 24 => 88 | 25 => 89 | 26 => 90 | 27 => 91 | 46 => 94 | 47 => 95 | 48 => 96 | 49 => 97 | 50 => 98 | 15 => 80 | 57 => 99 | 28 => 92 | 29 => 93 | n => n, fun | 24 => 3 | 22 => 50 | 3 => 3 | 25 => 79 | 4 => 4 | 0 => 0 | 46 => 128 | 45 => 127 | 50 => 117 | 66 => 137 | 39 => 124 | 55 => 136 | 70 => 141 | 76 => 143 | 77 => 61 | 53 => 134 | 5 => 5 | 9 => 9 | n => n, fun | n => n⟩
theorem Try.laysSlF014_f79 : Go.Proofs.SlLaysF0.n14 Try.prog Try.laysSlF014_f79_ren := {
  mixed := by kernel_rfl
  f14 := ⟨Try.f79.name, by decide, Try.func79.trans (congrArg some (by kernel_rfl))⟩
  f15 := Try.func80.trans (congrArg some (by kernel_rfl))
  f20 := ⟨Try.f84.name, by decide, Try.func84.trans (congrArg some (by kernel_rfl))⟩
  f21 := ⟨Try.f85.name, by decide, Try.func85.trans (congrArg some (by kernel_rfl))⟩
  f22 := ⟨Try.f86.name, by decide, Try.func86.trans (congrArg some (by kernel_rfl))⟩
  f23 := ⟨Try.f87.name, by decide, Try.func87.trans (congrArg some (by kernel_rfl))⟩
  f24 := ⟨Try.f88.name, by decide, Try.func88.trans (congrArg some (by kernel_rfl))⟩
  f25 := ⟨Try.f89.name, by decide, Try.func89.trans (congrArg some (by kernel_rfl))⟩
  f26 := ⟨Try.f90.name, by decide, Try.func90.trans (congrArg some (by kernel_rfl))⟩
  f27 := ⟨Try.f91.name, by decide, Try.func91.trans (congrArg some (by kernel_rfl))⟩
  f28 := Try.func92.trans (congrArg some (by kernel_rfl))
  f29 := Try.func93.trans (congrArg some (by kernel_rfl))
  f46 := ⟨Try.f94.name, by decide, Try.func94.trans (congrArg some (by kernel_rfl))⟩
  f47 := Try.func95.trans (congrArg some (by kernel_rfl))
  f48 := Try.func96.trans (congrArg some (by kernel_rfl))
  f49 := ⟨Try.f97.name, by decide, Try.func97.trans (congrArg some (by kernel_rfl))⟩
  f50 := ⟨Try.f98.name, by decide, Try.func98.trans (congrArg some (by kernel_rfl))⟩
  f57 := ⟨Try.f99.name, by decide, Try.func99.trans (congrArg some (by kernel_rfl))⟩
  t0 := Try.underlying0
  a0 := Try.isAgg0
  z0 := Try.sizeOf0
  v0 := Try.zeroValue0
  t3 := Try.underlying3
  a3 := Try.isAgg3
  z3 := Try.sizeOf3
  v3 := Try.zeroValue3
  t4 := Try.underlying4
  a4 := Try.isAgg4
  z4 := Try.sizeOf4
  v4 := Try.zeroValue4
  t5 := Try.underlying5
  a5 := Try.isAgg5
  z5 := Try.sizeOf5
  v5 := Try.zeroValue5
  t9 := Try.underlying9
  a9 := Try.isAgg9
  z9 := Try.sizeOf9
  v9 := Try.zeroValue9
  t22 := Try.underlying50
  a22 := Try.isAgg50
  z22 := Try.sizeOf50
  v22 := Try.zeroValue50
  t25 := Try.underlying79
  a25 := Try.isAgg79
  z25 := Try.sizeOf79
  v25 := Try.zeroValue79
  t39 := Try.underlying124
  a39 := Try.isAgg124
  z39 := Try.sizeOf124
  v39 := Try.zeroValue124
  t45 := Try.underlying127
  a45 := Try.isAgg127
  z45 := Try.sizeOf127
  v45 := Try.zeroValue127
  t46 := Try.underlying128
  a46 := Try.isAgg128
  z46 := Try.sizeOf128
  v46 := Try.zeroValue128
  t50 := Try.underlying117
  a50 := Try.isAgg117
  z50 := Try.sizeOf117
  v50 := Try.zeroValue117
  t53 := Try.underlying134
  a53 := Try.isAgg134
  z53 := Try.sizeOf134
  v53 := Try.zeroValue134
  t55 := Try.underlying136
  a55 := Try.isAgg136
  z55 := Try.sizeOf136
  v55 := Try.zeroValue136
  t66 := Try.underlying137
  a66 := Try.isAgg137
  z66 := Try.sizeOf137
  v66 := Try.zeroValue137
  t70 := Try.underlying141
  a70 := Try.isAgg141
  z70 := Try.sizeOf141
  v70 := Try.zeroValue141
  t76 := Try.underlying143
  a76 := Try.isAgg143
  z76 := Try.sizeOf143
  v76 := Try.zeroValue143
  t77 := Try.underlying61
  a77 := Try.isAgg61
  z77 := Try.sizeOf61
  v77 := Try.zeroValue61 }
open Go.RowKit Go.Lib Go.Sort in
theorem Try.pdqsortCmpFunc_none {α : Type} [Inhabited α] (p : Option Addr) (cap : Nat) (lim : Int) (fv : Value) (w : World) :
    Calls Try.prog 79 #[.slice p 0 cap, .int .i64 0, .int .i64 0, .int .i64 lim, fv] w fun e w' => e = .returned (.tuple #[]) ∧ w' = w := AnyF.pdqsortCmpFunc_none Try.laysSlF014_f79 p cap lim fv w
def Try.laysSlF06_f62_ren : Go.Shelf.Ren := ⟨fun | 6 => 62 | 15 => 80 | 14 => 79 | 28 => 92 | 29 => 93 | 20 => 84 | 21 => 85 | 22 => 86 | 23 => 87 | 24 => 88 | 25 => 89 | 26 => 90 | 27 => 91 | 46 => 94 | 47 => 95 | 48 => 96 | 49 => 97 | 50 => 98 | 57 => 99 | n => n, fun | 22 => 50 | 24 => 3 | 25 => 79 | 3 => 3 | 39 => 124 | 0 => 0 | 53 => 134 | 55 => 136 | 4 => 4 | 46 => 128 | 45 => 127 | 50 => 117 | 5 => 5 | 9 => 9 | 66 => 137 | 70 => 141 | 76 => 143 | 77 => 61 | n => n, fun | n => n⟩
theorem Try.laysSlF06_f62 : Go.Proofs.SlLaysF0.n6 Try.prog Try.laysSlF06_f62_ren := {
  mixed := by kernel_rfl
  f6 := ⟨Try.f62.name, by decide, Try.func62.trans (congrArg some (by kernel_rfl))⟩
  f14 := ⟨Try.f79.name, by decide, Try.func79.trans (congrArg some (by kernel_rfl))⟩
  f15 := Try.func80.trans (congrArg some (by kernel_rfl))
  f20 := ⟨Try.f84.name, by decide, Try.func84.trans (congrArg some (by kernel_rfl))⟩
  f21 := ⟨Try.f85.name, by decide, Try.func85.trans (congrArg some (by kernel_rfl))⟩
  f22 := ⟨Try.f86.name, by decide, Try.func86.trans (congrArg some (by kernel_rfl))⟩
  f23 := ⟨Try.f87.name, by decide, Try.func87.trans (congrArg some (by kernel_rfl))⟩
  f24 := ⟨Try.f88.name, by decide, Try.func88.trans (congrArg some (by kernel_rfl))⟩
  f25 := ⟨Try.f89.name, by decide, Try.func89.trans (congrArg some (by kernel_rfl))⟩
  f26 := ⟨Try.f90.name, by decide, Try.func90.trans (congrArg some (by kernel_rfl))⟩
  f27 := ⟨Try.f91.name, by decide, Try.func91.trans (congrArg some (by kernel_rfl))⟩
  f28 := Try.func92.trans (congrArg some (by kernel_rfl))
  f29 := Try.func93.trans (congrArg some (by kernel_rfl))
  f46 := ⟨Try.f94.name, by decide, Try.func94.trans (congrArg some (by kernel_rfl))⟩
  f47 := Try.func95.trans (congrArg some (by kernel_rfl))
  f48 := Try.func96.trans (congrArg some (by kernel_rfl))
  f49 := ⟨Try.f97.name, by decide, Try.func97.trans (congrArg some (by kernel_rfl))⟩
  f50 := ⟨Try.f98.name, by decide, Try.func98.trans (congrArg some (by kernel_rfl))⟩
  f57 := ⟨Try.f99.name, by decide, Try.func99.trans (congrArg some (by kernel_rfl))⟩
  t0 := Try.underlying0
  a0 := Try.isAgg0
  z0 := Try.sizeOf0
  v0 := Try.zeroValue0
  t3 := Try.underlying3
  a3 := Try.isAgg3
  z3 := Try.sizeOf3
  v3 := Try.zeroValue3
  t4 := Try.underlying4
  a4 := Try.isAgg4
  z4 := Try.sizeOf4
  v4 := Try.zeroValue4
  t5 := Try.underlying5
  a5 := Try.isAgg5
  z5 := Try.sizeOf5
  v5 := Try.zeroValue5
  t9 := Try.underlying9
  a9 := Try.isAgg9
  z9 := Try.sizeOf9
  v9 := Try.zeroValue9
  t22 := Try.underlying50
  a22 := Try.isAgg50
  z22 := Try.sizeOf50
  v22 := Try.zeroValue50
  t25 := Try.underlying79
  a25 := Try.isAgg79
  z25 := Try.sizeOf79
  v25 := Try.zeroValue79
  t39 := Try.underlying124
  a39 := Try.isAgg124
  z39 := Try.sizeOf124
  v39 := Try.zeroValue124
  t45 := Try.underlying127
  a45 := Try.isAgg127
  z45 := Try.sizeOf127
  v45 := Try.zeroValue127
  t46 := Try.underlying128
  a46 := Try.isAgg128
  z46 := Try.sizeOf128
  v46 := Try.zeroValue128
  t50 := Try.underlying117
  a50 := Try.isAgg117
  z50 := Try.sizeOf117
  v50 := Try.zeroValue117
  t53 := Try.underlying134
  a53 := Try.isAgg134
  z53 := Try.sizeOf134
  v53 := Try.zeroValue134
  t55 := Try.underlying136
  a55 := Try.isAgg136
  z55 := Try.sizeOf136
  v55 := Try.zeroValue136
  t66 := Try.underlying137
  a66 := Try.isAgg137
  z66 := Try.sizeOf137
  v66 := Try.zeroValue137
  t70 := Try.underlying141
  a70 := Try.isAgg141
  z70 := Try.sizeOf141
  v70 := Try.zeroValue141
  t76 := Try.underlying143
  a76 := Try.isAgg143
  z76 := Try.sizeOf143
  v76 := Try.zeroValue143
  t77 := Try.underlying61
  a77 := Try.isAgg61
  z77 := Try.sizeOf61
  v77 := Try.zeroValue61 }
open Go.RowKit Go.Lib Go.Sort in
/-- **slices.SortFunc AT NO ELEMENT, A nil SLICE TOO: nothing turns.** (LAID AT THE INSTANCE 'slices.SortFunc[[]int,int]': no walk: one application.) -/
theorem Try.slices_SortFunc_none {α : Type} [Inhabited α] (p : Option Addr) (cap : Nat) (fv : Value) (w : World) :
    Calls Try.prog 62 #[.slice p 0 cap, fv] w fun e w' => e = .returned (.tuple #[]) ∧ w' = w := AnyF.slices_SortFunc_none Try.laysSlF06_f62 p cap fv w
open Go.RowKit Go.Lib Go.Sort in
/-- **slices.SortFunc AT ONE CELL, UNDER A 'cmp' THAT PARTS WHATEVER TWO THAT ARE NOT ONE: THE ROW HOLDS core's 'mergeSort'.** (LAID AT THE INSTANCE 'slices.SortFunc[[]int,int]': no walk: one application.) -/
theorem Try.slices_SortFunc_total {α : Type} [Inhabited α] (enc : α → Value) (h1 : OneCell enc) (cf : α → α → Int) (hO : SWO (ltOf cf)) (g : Nat) (cb : Array Value) (blk off cap : Nat) (d : Array α) (w : World) (eg : ∀ args w, (callFunc g args).run Try.prog w = .ok (.enter g args) w) (hcmp : CmpLays1 Try.prog g cb enc cf blk off d.size w) (hH : Holds enc w blk off d) (hblk : blk < w.heap.size) (hsz : d.size < 4611686018427387904) (hT : ∀ x y, (ltOf cf) x y = false → (ltOf cf) y x = false → x = y) :
    Calls Try.prog 62 #[.slice (some ⟨blk, off, none⟩) d.size cap, .func (.func g) #[] cb] w fun e w' =>
      e = .returned (.tuple #[]) ∧ ∃ n os, w' = sortWorld enc w blk off n (d.toList.mergeSort fun x y => !(ltOf cf) y x).toArray os := Any.slices_SortFunc_total Try.laysSlF6_f62 enc h1 cf hO g cb blk off cap d w eg hcmp hH hblk hsz hT
end Go.Proofs
/- slices.SortFunc over the sizes of the parts: in descending order. -/
namespace Go.Proofs.Ytfigooilhnahfaa
open Go.RowKit Go.Shelf Go.Sort

abbrev Sm := { n : Int // 0 ≤ n ∧ n ≤ 1000000 }
instance : Inhabited Sm := ⟨⟨0, by decide⟩⟩
def encS (x : Sm) : Value := .int .i64 x.1
def cfS (x y : Sm) : Int := y.1 - x.1
theorem Parts1_any (x y : Sm) (w : World) : Calls Try.prog 63 #[encS x, encS y] w fun e w' => e = .returned (.int .i64 (cfS x y)) ∧ w' = w := by
  obtain ⟨x, hx1, hx2⟩ := x
  obtain ⟨y, hy1, hy2⟩ := y
  show Calls Try.prog 63 #[.int .i64 x, .int .i64 y] w fun e w' => e = .returned (.int .i64 (y - x)) ∧ w' = w
  have q0 : IntKind.i64.wrap (y - x) = y - x := IntWalk.i64_in _ (by omega)
  go_enter Try.func63, Try.ntmps63
  go_wp2
  go_ret
  exact ⟨rfl, rfl⟩
theorem ltS (x y : Sm) : ltOf cfS x y = decide (y.1 < x.1) := by
  unfold ltOf cfS
  by_cases h : y.1 < x.1
  · simp [h]; omega
  · simp [h]; omega
theorem swoS : SWO (ltOf cfS) where
  irrefl x := by rw [ltS]; simp
  trans x y z h1 h2 := by rw [ltS] at *; simp at *; omega
  ntrans x y z h1 h2 := by rw [ltS] at *; simp at *; omega
theorem totS (x y : Sm) (h1 : ltOf cfS x y = false) (h2 : ltOf cfS y x = false) : x = y := by
  rw [ltS] at *
  simp at h1 h2
  exact Subtype.ext (by omega)
theorem toSm {l : List Int} (h : ∀ x ∈ l, 0 ≤ x ∧ x ≤ 1000000) : ∃ d : List Sm, d.map (·.1) = l := by
  induction l with
  | nil => exact ⟨[], rfl⟩
  | cons a l ih =>
    obtain ⟨d, hd⟩ := ih (fun x hx => h x (List.mem_cons_of_mem _ hx))
    exact ⟨⟨a, h a (List.mem_cons_self ..)⟩ :: d, by simp [hd]⟩

set_option maxHeartbeats 1000000 in
theorem SortFunc_any (l : List Int) (h : ∀ x ∈ l, 0 ≤ x ∧ x ≤ 1000000) (v : Value) (w : World) (ho : OwnsI w v l) (hlen : l.length ≤ 4096) :
    Calls Try.prog 62 #[v, .func (.func 63) #[] #[]] w fun e w' => e = .returned (.tuple #[]) ∧
      (∃ a cap, v = .slice a l.length cap ∧ CellsI w' a (l.mergeSort fun x y => decide (y ≤ x))) ∧ (∀ n, n ≤ w.heap.size → (∀ b, v.ownBlock = some b → n ≤ b) → Below n w w') ∧ Chg (fun k => v.ownBlock = some k) w w' := by
  obtain ⟨a, cap, hv, hc, hb⟩ := ho.reads
  rcases hb with rfl | ⟨b, rfl, hvb, hb⟩
  · subst hv
    refine (Try.slices_SortFunc_none (α := Sm) a cap (.func (.func 63) #[] #[]) w).mono ?_
    rintro e w' ⟨rfl, rfl⟩
    exact ⟨rfl, ⟨a, cap, rfl, by simpa using CellsI.nil _ _⟩, fun n _ _ => Below.refl _ _, Chg.refl _ _⟩
  · obtain ⟨d, rfl⟩ := toSm h
    subst hv
    have hbw : b < w.heap.size := ho.lt hvb
    have eg : ∀ args w, (callFunc 63 args).run Try.prog w = .ok (.enter 63 args) w := enters_of Try.func63 (by kernel_rfl) rfl
    have hH : Holds encS w b 0 d.toArray := fun j hj => by
      have hj' : j < (d.map (·.1)).length := by simpa using hj
      obtain ⟨h1, h2⟩ := hb j hj'
      rw [Nat.zero_add]
      refine ⟨?_, h2⟩
      rw [h1]
      have hj2 : j < d.length := by simpa using hj
      simp [encS, List.getD, hj2]
    have key := Try.slices_SortFunc_total encS (fun _ => rfl) cfS swoS 63 #[] b 0 cap d.toArray w eg (CmpReads.lays fun m os dk _ x y => (Parts1_any x y _).mono fun e w' ⟨h1, h2⟩ => ⟨h1, 0, h2⟩) hH hbw (by simp at hlen ⊢; omega) totS
    have hsz : d.toArray.size = (d.map (·.1)).length := by simp
    rw [hsz] at key
    refine key.mono ?_
    rintro e w' ⟨rfl, n, os, rfl⟩
    have hms : ((d.toArray.toList.mergeSort fun x y => !(ltOf cfS) y x)).map (·.1) = (d.map (·.1)).mergeSort fun x y => decide (y ≤ x) := by
      refine List.map_mergeSort fun x _ y _ => ?_
      rw [ltS]
      by_cases hxy : y.1 ≤ x.1
      · simp [hxy]
      · simp [hxy]; omega
    have hl : (d.toArray.toList.mergeSort fun x y => !(ltOf cfS) y x).length = d.toArray.size := by simp
    have hw := Lib.sorted_world encS w b 0 n d.toArray (d.toArray.toList.mergeSort fun x y => !(ltOf cfS) y x) os hH hl
    refine ⟨rfl, ⟨_, cap, rfl, ?_⟩, ?_, ?_⟩
    · intro i hi
      refine ⟨b, 0, rfl, ?_⟩
      rw [← hms] at hi ⊢
      unfold sortWorld
      rw [hw]
      have hc2 := Lib.cells_sorted_ints (W := w) (b := b) (off := 0) (q := n) (zs := d.map (·.1)) (n := (d.map (·.1)).length) (ys := (d.toArray.toList.mergeSort fun x y => !(ltOf cfS) y x).map (·.1)) (os := os) (Nat.le_refl _) (by simp) (fun j hj => by rw [Nat.zero_add]; exact (hb j hj).1)
      have := hc2 i (by simpa using hi)
      rw [List.drop_length, List.append_nil] at this
      have e : (d.toArray.toList.mergeSort fun x y => !(ltOf cfS) y x).map encS = ((d.toArray.toList.mergeSort fun x y => !(ltOf cfS) y x).map (·.1)).map (Value.int .i64) := by rw [List.map_map]; rfl
      rw [e]
      exact this
    · intro m hm hmb
      unfold sortWorld
      rw [hw]
      have hbm := hmb b hvb
      have h1 : Below m w (w.drewN n) := ((Ext.refl w).drewN n).mono hm
      have h2 : ∀ (vs : List Value) (o : Nat) (A : World), Below m A (A.setCells b o vs) := by
        intro vs
        induction vs with
        | nil => intro o A; exact Below.refl _ _
        | cons v vs ih => intro o A; exact (Below.setCell (p := ⟨b, o, none⟩) (Below.refl m A) hbm v).trans (ih _ _)
      refine (h1.trans (h2 _ _ _)).trans ⟨rfl, rfl, rfl, by simp [grow], fun k hk => ?_⟩
      have hz : m ≤ ((w.drewN n).setCells b 0 (List.map encS (d.toArray.toList.mergeSort fun x y => !ltOf cfS y x))).heap.size := Nat.le_trans hm (h1.trans (h2 _ _ _)).size
      exact heap_grow_old _ os (by omega)
    · unfold sortWorld
      rw [hw]
      have h2 : ∀ (vs : List Value) (o : Nat) (A : World), Chg (fun k => (Value.slice (some ⟨b, 0, none⟩) (d.map (·.1)).length cap).ownBlock = some k) A (A.setCells b o vs) := by
        intro vs
        induction vs with
        | nil => intro o A; exact Chg.refl _ _
        | cons v vs ih => intro o A; exact (Chg.setCell (B := fun k => (Value.slice (some ⟨b, 0, none⟩) (d.map (·.1)).length cap).ownBlock = some k) ⟨b, o, none⟩ v rfl).trans (ih _ _)
      refine ((Chg.ext ((Ext.refl w).drewN n)).trans (h2 _ _ _)).trans ⟨by simp [grow], fun k hk _ => heap_grow_old _ os hk⟩
end Go.Proofs.Ytfigooilhnahfaa
/- Parts. -/
namespace Go.Proofs.Ytfigooilhnahfaa
open Go.RowKit Go.Maps
attribute [local go_sem] Oper.semAt_some

theorem CellsI.keep {m : Nat} {A B : World} {a : Option Addr} {l : List Int} (h : CellsI A a l) (k : Keep m A B) : CellsI B a l := fun i hi => by
  obtain ⟨b, off, h1, h2⟩ := h i hi
  exact ⟨b, off, h1, k.cell h2⟩
theorem SeenM.mono {w : World} {mb m n : Nat} {S : List Pt} (h : SeenM w mb m S) (hmn : m ≤ n) : SeenM w mb n S := by
  obtain ⟨k, h1, h2⟩ := h
  exact ⟨k, by omega, h2⟩

theorem SeenM.at {w : World} {mb n : Nat} {S : List Pt} (h : SeenM w mb n S) : ∃ es clock, w.heap[mb]? = some (.map es clock) := by
  obtain ⟨k, _, h2⟩ := h
  exact h2.at
theorem Chg.mono {B C : Nat → Prop} {A D : World} (h : Chg B A D) (k : ∀ i, B i → C i) : Chg C A D := ⟨h.1, fun i hi hn => h.2 i hi (fun e => hn (k i e))⟩

structure PtL (g : Gr) (W0 : World) (mb sb k : Nat) (L : List Int) (v : Value) (ds : List Deferred) (w : World) : Prop where
  eq : L = (partK g k).2
  se : SeenM w mb (k * 4096) (partK g k).1
  cm : w.cell? ⟨sb, 0, none⟩ = some (.map (some mb))
  be : Below mb W0 w
  own : OwnsI w v L
  vb : ∀ b, v.ownBlock = some b → W0.heap.size ≤ b
  ms : Marks W0.heap.size ds w
theorem PtL.ext {g : Gr} {W0 : World} {mb sb k : Nat} {L : List Int} {v : Value} {ds : List Deferred} {A B : World} (h : PtL g W0 mb sb k L v ds A) (x : Ext A B) : PtL g W0 mb sb k L v ds B :=
  ⟨h.eq, h.se.same (Below.block x _ h.se.lt), x.cell h.cm, h.be.trans (x.mono (Nat.le_of_lt h.se.lt)), h.own.ext x, h.vb, h.ms.ext x⟩
theorem PtL.next {g : Gr} {W0 : World} {mb sb k : Nat} {L : List Int} {v : Value} {ds : List Deferred} {A : World} (h : PtL g W0 mb sb k L v ds A) (e : partK g (k + 1) = partK g k) : PtL g W0 mb sb (k + 1) L v ds A :=
  ⟨by rw [e]; exact h.eq, by rw [e]; exact h.se.mono (by omega), h.cm, h.be, h.own, h.vb, h.ms⟩
def PtOA (g : Gr) (W0 : World) (n mb sb : Nat) (x : Act) (w : World) : Prop :=
  ∃ (r : Nat) (L : List Int) (av : Option Addr) (cv : Nat) (ds : List Deferred) (u0 u2 u3 u4 u7 u8 u9 u10 u11 u12 u13 u14 u15 u16 u17 u18 u21 u22 u23 u24 u25 u26 u27 u28 u29 u30 u31 u32 u33 u34 u35 u36 u37 u38 u39 u40 u41 u42 u43 u44 u45 u46 u47 u48 u49 u50 u51 u52 u53 u54 u55 u56 : Value), r ≤ g.rows.toNat ∧ x = { tmps := #[u0, .pointer (some ⟨n, 0, none⟩), u2, u3, u4, .slice av L.length cv, .pointer (some ⟨sb, 0, none⟩), u7, u8, u9, u10, u11, u12, u13, u14, u15, u16, u17, u18, .int .i64 g.rows, .int .i64 r, u21, u22, u23, u24, u25, u26, u27, u28, u29, u30, u31, u32, u33, u34, u35, u36, u37, u38, u39, u40, u41, u42, u43, u44, u45, u46, u47, u48, u49, u50, u51, u52, u53, u54, u55, u56], defers := ds } ∧ PtL g W0 mb sb (r * g.cols.toNat) L (.slice av L.length cv) ds w
def PtIA (g : Gr) (W0 : World) (n mb sb r : Nat) (x : Act) (w : World) : Prop :=
  ∃ (c : Nat) (L : List Int) (av : Option Addr) (cv : Nat) (ds : List Deferred) (u0 u2 u3 u4 u8 u9 u10 u11 u12 u13 u14 u15 u16 u17 u18 u21 u22 u23 u26 u27 u28 u29 u30 u31 u32 u33 u34 u35 u36 u37 u38 u39 u40 u41 u42 u43 u44 u45 u46 u47 u48 u49 u50 u51 u52 u53 u54 u55 u56 : Value), c ≤ g.cols.toNat ∧ x = { tmps := #[u0, .pointer (some ⟨n, 0, none⟩), u2, u3, u4, .slice av L.length cv, .pointer (some ⟨sb, 0, none⟩), .int .i64 r, u8, u9, u10, u11, u12, u13, u14, u15, u16, u17, u18, .int .i64 g.rows, .int .i64 r, u21, u22, u23, .int .i64 g.cols, .int .i64 c, u26, u27, u28, u29, u30, u31, u32, u33, u34, u35, u36, u37, u38, u39, u40, u41, u42, u43, u44, u45, u46, u47, u48, u49, u50, u51, u52, u53, u54, u55, u56], defers := ds } ∧ PtL g W0 mb sb (r * g.cols.toNat + c) L (.slice av L.length cv) ds w

def PartsPost (g : Gr) (w : World) (e : Ending) (w' : World) : Prop :=
  ∃ a cap, e = .returned (.tuple #[.slice a (partsL g).length cap, .int .i64 (chk g)]) ∧ CellsI w' a (partsL g) ∧ Ext w w'

set_option maxHeartbeats 4000000 in
set_option maxRecDepth 100000 in
theorem Parts_any (g : Gr) (ga : Option Addr) (gc : Nat) (w : World) (hg : g.bl.length ≤ maxLen) (hc : Cells2 w ga g.bl) :
    Calls Try.prog 22 #[.agg #[.int .i64 g.rows, .int .i64 g.cols, .slice ga g.bl.length gc]] w fun e w' => PartsPost g w e w' := by
  have HC : Hid (Cells2 w ga g.bl) := hc
  have HG := Lib.hid hg
  clear hc hg
  have E0 : Ext w (((w).alloc (.cells #[.int .i64 g.rows, .int .i64 g.cols, .slice ga g.bl.length gc] 33))) := (Ext.refl _).alloc _
  have a1 : (((w).alloc (.cells #[.int .i64 g.rows, .int .i64 g.cols, .slice ga g.bl.length gc] 33))).cell? ⟨w.heap.size, 0, none⟩ = some (.int .i64 g.rows) := by go_simp
  have a2 : (((w).alloc (.cells #[.int .i64 g.rows, .int .i64 g.cols, .slice ga g.bl.length gc] 33))).cell? ⟨w.heap.size, 1, none⟩ = some (.int .i64 g.cols) := by go_simp
  have a3 : (((w).alloc (.cells #[.int .i64 g.rows, .int .i64 g.cols, .slice ga g.bl.length gc] 33))).cell? ⟨w.heap.size, 2, none⟩ = some (.slice ga g.bl.length gc) := by go_simp
  have hmm := @run_makeMap Try.prog
  refine (callsIn_wide (n := 0)).1 ?_
  refine callsIn_of_wp_marks Try.func22 rfl trivial ?_
  simp only [Try.ntmps22, List.size_toArray, List.length_cons, List.length_nil, Nat.reduceAdd, Nat.reduceSub, Array.replicate_succ, Array.replicate_zero, List.push_toArray, List.append_toArray, List.nil_append, List.cons_append]
  gi_wp2_with fail
  refine ⟨trivial, rfl, ?_⟩
  gi_at_call 24
  refine (callsIn_wide.2 (Check_any g ga gc _ HG.out (HC.out.ext E0))).mono ?_
  rintro e w1 ⟨rfl, hE⟩
  have b1 := hE.cell a1
  have b2 := hE.cell a2
  have b3 := hE.cell a3
  have E1 : Ext w w1 := E0.trans hE
  have z1 : w.heap.size < w1.heap.size := cell_lt b1
  clear hE E0 a1 a2 a3
  by_cases h0 : chk g = 0
  · have HR := Lib.hid (right_of_chk h0)
    have H0 := Lib.hid h0
    rw [h0]
    clear h0
    gi_wp2_with fail
    have M0 : Hid (SeenM (w1.alloc (.map #[] 0)) w1.heap.size 0 []) := ⟨0, Nat.le_refl _, SetAt.made _ _ _ _ _⟩
    have E2 : Ext (w1.alloc (.map #[] 0)) ((w1.alloc (.map #[] 0)).alloc (.cells #[.map (some w1.heap.size)] 98)) := (Ext.refl _).alloc _
    have E3 : Ext w1 ((w1.alloc (.map #[] 0)).alloc (.cells #[.map (some w1.heap.size)] 98)) := ((Ext.refl _).alloc _).alloc _
    have s1 : ((w1.alloc (.map #[] 0)).alloc (.cells #[.map (some w1.heap.size)] 98)).cell? ⟨w1.heap.size + 1, 0, none⟩ = some (.map (some w1.heap.size)) := by clear hmm; go_simp
    obtain ⟨mb, hmb⟩ : ∃ mb, mb = w1.heap.size := ⟨_, rfl⟩
    have M1 : Hid (SeenM ((w1.alloc (.map #[] 0)).alloc (.cells #[.map (some w1.heap.size)] 98)) w1.heap.size 0 []) := M0.out.same (Below.block E2 _ M0.out.lt)
    have zW : ((w1.alloc (.map #[] 0)).alloc (.cells #[.map (some w1.heap.size)] 98)).heap.size = w1.heap.size + 2 := by simp
    have c1 := E3.cell b1
    have c2 := E3.cell b2
    have c3 := E3.cell b3
    have EW := E1.trans E3
    rw [← hmb] at s1 M1 zW c1 c2 c3 EW ⊢
    have zn : w.heap.size < mb := by omega
    have HBL : Hid (g.bl ≠ [] → ∀ b off, ga = some ⟨b, off, none⟩ → b < mb) := fun hne b off hb => by
      have h1 := HC.out.lt hne hb
      have h2 := E1.size
      omega
    clear hmb M0 E2 E3 E1 b1 b2 b3 z1 hmm
    generalize (w1.alloc (.map #[] 0)).alloc (.cells #[.map (some mb)] 98) = W0 at s1 M1 zW c1 c2 c3 EW ⊢
    have HCW := Lib.hid (HC.out.ext EW)
    have hr1 := HR.out.r1
    have hr2 := HR.out.r2
    have hc1 := HR.out.c1
    have hc2 := HR.out.c2
    have hmx : Hid (g.rows.toNat * g.cols.toNat ≤ 4096) := Nat.mul_le_mul (show g.rows.toNat ≤ 64 by omega) (show g.cols.toNat ≤ 64 by omega)
    refine wpIn_loop (PtOA g W0 w.heap.size mb (mb + 1)) (fun a _ => fuel 20 a) ?_ ?_
    · refine ⟨0, [], none, 0, [], _, _, _, _, _, _, _, _, _, _, _, _, _, _, _, _, _, _, _, _, _, _, _, _, _, _, _, _, _, _, _, _, _, _, _, _, _, _, _, _, _, _, _, _, _, _, _, _, _, _, _, _, Nat.zero_le _, rfl, ?_⟩
      exact {
        eq := by rw [Nat.zero_mul]; rfl
        se := by rw [Nat.zero_mul]; exact M1.out
        cm := s1
        be := Below.refl _ _
        own := OwnsI.nil _
        vb := fun b hb => by cases hb
        ms := Marks.nil _ _ }
    · rintro x wr ⟨r, L, av, cv, ds, u0, u2, u3, u4, u7, u8, u9, u10, u11, u12, u13, u14, u15, u16, u17, u18, u21, u22, u23, u24, u25, u26, u27, u28, u29, u30, u31, u32, u33, u34, u35, u36, u37, u38, u39, u40, u41, u42, u43, u44, u45, u46, u47, u48, u49, u50, u51, u52, u53, u54, u55, u56, hrr, rfl, h⟩
      have H := Lib.hid h
      have g1 : wr.cell? ⟨w.heap.size, 0, none⟩ = some (.int .i64 g.rows) := (h.be.cell (p := ⟨w.heap.size, 0, none⟩) zn).trans c1
      have g2 : wr.cell? ⟨w.heap.size, 1, none⟩ = some (.int .i64 g.cols) := (h.be.cell (p := ⟨w.heap.size, 1, none⟩) zn).trans c2
      clear h
      by_cases hlt : r < g.rows.toNat
      · have hlt' : (r : Int) < g.rows := by omega
        gi_wp2_with fail
        refine wpIn_loop (PtIA g W0 w.heap.size mb (mb + 1) r) (fun a _ => fuel 25 a) ?_ ?_
        · exact ⟨0, L, av, cv, ds, _, _, _, _, _, _, _, _, _, _, _, _, _, _, _, _, _, _, _, _, _, _, _, _, _, _, _, _, _, _, _, _, _, _, _, _, _, _, _, _, _, _, _, _, _, _, _, _, _, Nat.zero_le _, rfl, H.out⟩
        · clear H g1 g2
          rintro x wr ⟨c, L, av, cv, ds, u0, u2, u3, u4, u8, u9, u10, u11, u12, u13, u14, u15, u16, u17, u18, u21, u22, u23, u26, u27, u28, u29, u30, u31, u32, u33, u34, u35, u36, u37, u38, u39, u40, u41, u42, u43, u44, u45, u46, u47, u48, u49, u50, u51, u52, u53, u54, u55, u56, hcc, rfl, h⟩
          have H := Lib.hid h
          have g1 : wr.cell? ⟨w.heap.size, 0, none⟩ = some (.int .i64 g.rows) := (h.be.cell (p := ⟨w.heap.size, 0, none⟩) zn).trans c1
          have g2 : wr.cell? ⟨w.heap.size, 1, none⟩ = some (.int .i64 g.cols) := (h.be.cell (p := ⟨w.heap.size, 1, none⟩) zn).trans c2
          have g3 : wr.cell? ⟨w.heap.size, 2, none⟩ = some (.slice ga g.bl.length gc) := (h.be.cell (p := ⟨w.heap.size, 2, none⟩) zn).trans c3
          have s2 := h.cm
          clear h
          by_cases hlc : c < g.cols.toNat
          · have hlc' : (c : Int) < g.cols := by omega
            have hkm : Hid (r * g.cols.toNat + c < g.rows.toNat * g.cols.toNat) := by
              show _ < _
              have h1 : (r + 1) * g.cols.toNat ≤ g.rows.toNat * g.cols.toNat := Nat.mul_le_mul_right _ hlt
              rw [Nat.add_mul, Nat.one_mul] at h1
              omega
            have HST : Hid (partK g (r * g.cols.toNat + c + 1) = partStep g (partK g (r * g.cols.toNat + c)) ((r : Int), (c : Int))) := by
              show _ = _
              rw [← cellAt_mk hlc]; rfl
            have HIN : Hid (inside g ((r : Int), (c : Int)) = true) := by
              show _ = _
              rw [← cellAt_mk hlc]
              exact cellAt_inside HR.out hkm.out
            have E4 : Ext wr (wr.alloc (.cells #[.int .i64 (r : Int), .int .i64 (c : Int)] 26)) := (Ext.refl _).alloc _
            have e1 : (wr.alloc (.cells #[.int .i64 (r : Int), .int .i64 (c : Int)] 26)).cell? ⟨wr.heap.size, 0, none⟩ = some (.int .i64 (r : Int)) := by go_simp
            have e2 : (wr.alloc (.cells #[.int .i64 (r : Int), .int .i64 (c : Int)] 26)).cell? ⟨wr.heap.size, 1, none⟩ = some (.int .i64 (c : Int)) := by go_simp
            obtain ⟨kn, hkn, hS⟩ := H.out.se
            obtain ⟨kl, hkl⟩ := keyPl (wf_inG (inG_of HR.out HIN.out)).1 (wf_inG (inG_of HR.out HIN.out)).2
            have hlook := (hS.ext E4).lookup lawPl Try.underlying98 Try.underlying4 (by kernel_rfl) hkl
            have g1' := E4.cell g1
            have g2' := E4.cell g2
            have g3' := E4.cell g3
            have s2' := E4.cell s2
            have HCr : Hid (Cells2 (wr.alloc (.cells #[.int .i64 (r : Int), .int .i64 (c : Int)] 26)) ga g.bl) := (Cells2.kept (Kd := fun k => k < mb) (n := 0) ⟨H.out.be.size, fun k o hk ho _ => by rw [H.out.be.block k hk]; exact ho⟩ (fun b off hb hne => HBL.out hne b off hb) HCW.out).ext E4
            have HE4 := Lib.hid E4
            have zwr : W0.heap.size ≤ wr.heap.size := H.out.be.size
            have zp : wr.heap.size < (wr.alloc (.cells #[.int .i64 (r : Int), .int .i64 (c : Int)] 26)).heap.size := by simp
            have zsb : mb + 1 < wr.heap.size := by omega
            have zn' : w.heap.size < wr.heap.size := by omega
            unfold evPl at hlook
            dsimp only at hlook
            clear hS hkl E4
            have nx : Hid (∀ (B : World), Ext wr B → partK g (r * g.cols.toNat + c + 1) = partK g (r * g.cols.toNat + c) → PtL g W0 mb (mb + 1) (r * g.cols.toNat + (c + 1)) L (.slice av L.length cv) ds B) := fun B hB e => (H.out.ext hB).next e
            by_cases hmem : ((r : Int), (c : Int)) ∈ (partK g (r * g.cols.toNat + c)).1
            · simp only [hmem, decide_true] at hlook
              have HEQ : Hid (partK g (r * g.cols.toNat + c + 1) = partK g (r * g.cols.toNat + c)) := by
                show _ = _
                rw [HST.out]; unfold partStep; rw [if_pos hmem]
              clear hmem
              gi_wp2
              refine ⟨trivial, ?_⟩
              gi_wp2
              exact ⟨⟨c + 1, L, av, cv, ds, _, _, _, _, _, _, _, _, _, _, _, _, _, _, _, _, _, _, _, _, _, _, _, _, _, _, _, _, _, _, _, _, _, _, _, _, _, _, _, _, _, _, _, _, _, _, _, _, _, by omega, by first | rfl | go_num, nx.out _ HE4.out HEQ.out⟩, by simp [fuel, Go.RowKit.intOf]; omega⟩
            · simp only [hmem, decide_false] at hlook
              cases hb : blk g ((r : Int), (c : Int))
              · have HEQ : Hid (partK g (r * g.cols.toNat + c + 1) = (insAll (partK g (r * g.cols.toNat + c)).1 ((wave g ((r : Int), (c : Int))).map (·.1)), (partK g (r * g.cols.toNat + c)).2 ++ [((wave g ((r : Int), (c : Int))).length : Int)])) := by
                  show _ = _
                  rw [HST.out]; unfold partStep; rw [if_neg hmem, if_neg (by simp [hb])]
                have HB := Lib.hid hb
                clear hmem hb
                gi_wp2_with fail
                refine ⟨trivial, rfl, ?_⟩
                gi_at_call 60
                refine (callsIn_wide.2 (blocked_any g ((r : Int), (c : Int)) ga gc _ HR.out HCr.out)).mono ?_
                rintro e w2 ⟨rfl, hE⟩
                rw [HB.out]
                have h1 := hE.cell g1'
                have h2 := hE.cell g2'
                have h3 := hE.cell g3'
                have h4 := hE.cell s2'
                have h5 := hE.cell e1
                have h6 := hE.cell e2
                have E2 := HE4.out.trans hE
                have zw2 : wr.heap.size < w2.heap.size := cell_lt h5
                have zn2 : w.heap.size < w2.heap.size := cell_lt h1
                have zs2 : mb + 1 < w2.heap.size := cell_lt h4
                have HC2 := Lib.hid (HCr.out.ext hE)
                clear g1 g2 g3 s2 g1' g2' g3' s2' e1 e2 hE hlook HCr nx zp zsb zn' HE4
                gi_wp2_with fail
                refine ⟨trivial, rfl, ?_⟩
                gi_at_call 61
                refine (callsIn_wide.2 (wave_any g ((r : Int), (c : Int)) _ _)).mono ?_
                rintro e w3 ⟨rfl, hw3⟩
                have E3 : Ext w2 (w2.alloc (.cells #[.int .i64 0] 3)) := (Ext.refl _).alloc _
                have n1 : (w2.alloc (.cells #[.int .i64 0] 3)).cell? ⟨w2.heap.size, 0, none⟩ = some (.int .i64 0) := by clear hw3; go_simp
                have n2 : (w2.alloc (.cells #[.int .i64 0] 3)).frozen? ⟨w2.heap.size, 0, none⟩ = false := by clear hw3; go_simp
                have E5 : Ext (w2.alloc (.cells #[.int .i64 0] 3)) w3 := by rw [← hw3]; exact ((Ext.refl _).alloc _).alloc _
                have hz3 : w3.heap.size = w2.heap.size + 3 := by rw [← hw3]; simp
                have G1 : w3.cell? ⟨w2.heap.size + 1, 0, none⟩ = some (.int .i64 g.rows) := by rw [← hw3]; clear hw3; go_simp
                have G2 : w3.cell? ⟨w2.heap.size + 1, 1, none⟩ = some (.int .i64 g.cols) := by rw [← hw3]; clear hw3; go_simp
                have G3 : w3.cell? ⟨w2.heap.size + 1, 2, none⟩ = some (.slice ga g.bl.length gc) := by rw [← hw3]; clear hw3; go_simp
                have P1 : w3.cell? ⟨w2.heap.size + 1 + 1, 0, none⟩ = some (.int .i64 (r : Int)) := by rw [← hw3]; clear hw3; go_simp
                have P2 : w3.cell? ⟨w2.heap.size + 1 + 1, 1, none⟩ = some (.int .i64 (c : Int)) := by rw [← hw3]; clear hw3; go_simp
                have n3 := E5.cell n1
                have n4 : w3.frozen? ⟨w2.heap.size, 0, none⟩ = false := (Below.frozen E5 (p := ⟨w2.heap.size, 0, none⟩) (by simp)).trans n2
                have E6 := (E2.trans E3).trans E5
                have HC3 := Lib.hid (HC2.out.ext (E3.trans E5))
                have h4' := (E3.trans E5).cell h4
                gi_wp2_with fail
                have hz6 := E6.size
                have HW := Lib.hid (wave_len HR.out HIN.out)
                clear hw3
                refine wpIn_wide.2 (parts_range _ _ rfl g ((r : Int), (c : Int)) ga gc w3 (w2.heap.size + 1 + 1) (w2.heap.size + 1) mb (mb + 1) w2.heap.size mb ((r * g.cols.toNat + c) * 4096) (partK g (r * g.cols.toNat + c)).1 HR.out HIN.out P1 P2 G1 G2 G3 HC3.out (by omega) (by omega)
                  (fun hne b off h => by have := HBL.out hne b off h; omega) ⟨n3, n4, h4', H.out.se.same (Below.block E6 _ H.out.se.lt), Chg.refl _ _, Below.refl _ _⟩ (by omega) (by omega) (by omega) (by omega) (by omega) (by have h8 := hkm.out; have h9 := hmx.out; omega) _ _ _ _ _ _ _ _ _ _ _ _ _ _ _ _ _ _ _ _ _ _ _ _ _ _ _ _ _ _ _ _ _ _ _ _ _ _ _ _ _ _ _ _ _ _ _ _ _ _ _ _ _ _ ds _ ?_)
                intro Db w4 k1 k2 h7 k4
                have H7 := Lib.hid h7
                have K4 := Lib.hid k4
                have d1 := h7.cn
                have hz4 : w3.heap.size ≤ w4.heap.size := h7.ch.1
                have V4 : Hid (OwnsI w4 (.slice av L.length cv) L) := (H.out.own.ext E6).kept (X := fun k => ¬ (k = w2.heap.size ∨ k = mb)) (n := 0) (h7.ch.kept (fun k hk _ => hk)) (fun b hb => by
                  have h8 := H.out.own.lt hb
                  have h9 := H.out.vb b hb
                  show ¬ _
                  omega)
                have hlen : L.length ≤ 4096 := by
                  have h8 := partK_len g (r * g.cols.toNat + c)
                  rw [← H.out.eq] at h8
                  have h9 := hkm.out
                  have h10 := hmx.out
                  omega
                obtain ⟨i0, hi, hi0, hi1, hi2⟩ := info_parts infoInt
                clear h7 k4 P1 P2 G1 G2 G3 n1 n2 n3 n4 h4' h1 h2 h3 h4 h5 h6
                gi_wp2_with (gi_at_builtin; refine wpListIn_append1 _ rfl _ _ 50 rfl 3 i0 (.int .i64 0) 1 8 Try.underlying50 hi hi0 hi1 hi2 rfl (by decide) (.slice av L.length cv) _ _ rfl (V4.out.ext ((Ext.refl _).alloc _)) ⟨w4.heap.size, 0, none⟩ 1 1 (by decide) [.int .i64 ((wave g ((r : Int), (c : Int))).length : Int)] rfl rfl (cell_one_int _ _ _) ?c1 ?c2 ?c3 ?c4)
                case c1 => intro u hu; simp at hu; subst hu; rfl
                case c2 => unfold maxLen; omega
                case c3 => omega
                case c4 =>
                  intro v' w5 hown5 hend5
                  have O5 := ownsI_succ hown5
                  obtain ⟨av', cv', rfl, _, hbk⟩ := O5.reads
                  have E4 : Ext w4 (w4.alloc (.cells #[.int .i64 ((wave g ((r : Int), (c : Int))).length : Int)] 3)) := (Ext.refl _).alloc _
                  have CA : Chg (fun k => (Value.slice av L.length cv).ownBlock = some k) (w4.alloc (.cells #[.int .i64 ((wave g ((r : Int), (c : Int))).length : Int)] 3)) w5 := Chg.app hend5 (fun b hb => hb)
                  have HCA := Lib.hid CA
                  have HE4 := Lib.hid E4
                  have HEND := Lib.hid hend5
                  have HO5 := Lib.hid O5
                  clear CA E4 hend5 hown5 O5 hbk d1
                  gi_wp2
                  have s0 : W0.heap.size ≤ wr.heap.size := H.out.be.size
                  have s2 : w4.heap.size + 1 ≤ w5.heap.size := by have := HCA.out.1; simp at this; omega
                  have C45 : Chg (fun k => (Value.slice av L.length cv).ownBlock = some k) w4 w5 := (Chg.ext HE4.out).trans HCA.out
                  have CC : Chg (fun k => (k = w2.heap.size ∨ k = mb) ∨ (Value.slice av L.length cv).ownBlock = some k) wr w5 :=
                    ((Chg.ext E6).trans (H7.out.ch.mono fun _ h => .inl h)).trans (C45.mono fun _ h => .inr h)
                  have nvb : ∀ b, (Value.slice av L.length cv).ownBlock = some b → W0.heap.size ≤ b ∧ b < wr.heap.size := fun b hb => ⟨H.out.vb b hb, H.out.own.lt hb⟩
                  have b4 : w5.heap[mb]? = w4.heap[mb]? := C45.2 mb (by omega) (fun e => by have := nvb mb e; omega)
                  have hsb : w5.cell? ⟨mb + 1, 0, none⟩ = some (.map (some mb)) :=
                    (World.cell?_of_block (w := w4) (a := ⟨mb + 1, 0, none⟩) (C45.2 (mb + 1) (by omega) (fun e => by have := nvb (mb + 1) e; omega))).trans H7.out.cm
                  refine ⟨⟨c + 1, L ++ [((wave g ((r : Int), (c : Int))).length : Int)], av', cv', mark Db :: ds, _, _, _, _, _, _, _, _, _, _, _, _, _, _, _, _, _, _, _, _, _, _, _, _, _, _, _, _, _, _, _, _, _, _, _, _, _, _, _, _, _, _, _, _, _, _, _, _, _, by omega, by first | rfl | (rw [List.length_append, List.length_singleton]; rfl), ?_⟩, by simp [fuel, Go.RowKit.intOf]; omega⟩
                  exact {
                    eq := by rw [← Nat.add_assoc, HEQ.out, H.out.eq]
                    se := by
                      rw [← Nat.add_assoc, HEQ.out]
                      refine (H7.out.se.same b4).mono ?_
                      have := HW.out
                      omega
                    cm := hsb
                    be := (((H.out.be.trans (E6.mono (by omega))).trans H7.out.be).trans (HE4.out.mono (by omega))).trans (HEND.out.below (by simp; omega) (fun b hb => by have := nvb b hb; omega))
                    own := HO5.out
                    vb := fun b hb => by
                      rcases HEND.out with ⟨h1, _, _⟩ | ⟨h1, _⟩
                      · rw [h1] at hb; exact H.out.vb b hb
                      · rw [h1] at hb
                        have hb' : b = (w4.alloc (.cells #[.int .i64 ((wave g ((r : Int), (c : Int))).length : Int)] 3)).heap.size := by cases hb; rfl
                        simp at hb'
                        omega
                    ms := Marks.cons (A := wr) H.out.ms (by omega) (by omega) (H.out.ms.keptX (X := fun k => ¬ ((k = w2.heap.size ∨ k = mb) ∨ (Value.slice av L.length cv).ownBlock = some k)) (CC.kept (fun k hk _ => hk)) (fun D _ hD => by
                        have hDl := (Array.getElem?_eq_some_iff.1 hD).1
                        rintro ((e | e) | e)
                        · omega
                        · obtain ⟨es, cl, h8⟩ := H.out.se.at
                          rw [e, h8] at hD
                          cases hD
                        · have := H.out.own.isCells e hD
                          cases this))
                      ((C45.2 Db k2 (fun e => by have := nvb Db e; omega)).trans K4.out) }
              · have HEQ : Hid (partK g (r * g.cols.toNat + c + 1) = partK g (r * g.cols.toNat + c)) := by
                  show _ = _
                  rw [HST.out]; unfold partStep; rw [if_neg hmem, if_pos hb]
                have HB := Lib.hid hb
                clear hmem hb
                gi_wp2_with fail
                refine ⟨trivial, rfl, ?_⟩
                gi_at_call 60
                refine (callsIn_wide.2 (blocked_any g ((r : Int), (c : Int)) ga gc _ HR.out HCr.out)).mono ?_
                rintro e w2 ⟨rfl, hE⟩
                rw [HB.out]
                gi_wp2
                exact ⟨⟨c + 1, L, av, cv, ds, _, _, _, _, _, _, _, _, _, _, _, _, _, _, _, _, _, _, _, _, _, _, _, _, _, _, _, _, _, _, _, _, _, _, _, _, _, _, _, _, _, _, _, _, _, _, _, _, _, by omega, by first | rfl | go_num, nx.out _ (HE4.out.trans hE) HEQ.out⟩, by simp [fuel, Go.RowKit.intOf]; omega⟩
          · have hlc' : ¬ (c : Int) < g.cols := by omega
            have HCE : Hid (r * g.cols.toNat + c = (r + 1) * g.cols.toNat) := by
              show _ = _
              rw [Nat.add_mul, Nat.one_mul, show c = g.cols.toNat by omega]
            gi_wp2
            refine ⟨⟨r + 1, L, av, cv, ds, _, _, _, _, _, _, _, _, _, _, _, _, _, _, _, _, _, _, _, _, _, _, _, _, _, _, _, _, _, _, _, _, _, _, _, _, _, _, _, _, _, _, _, _, _, _, _, _, _, _, _, _, by omega, rfl, by rw [← HCE.out]; exact H.out⟩, by simp [fuel, Go.RowKit.intOf]; omega⟩
      · have hlt' : ¬ (r : Int) < g.rows := by omega
        gi_wp2_with fail
        obtain rfl : r = g.rows.toNat := by omega
        refine ⟨trivial, rfl, ?_⟩
        gi_at_call 62
        have hL : L = partsU g := H.out.eq
        have hlen : L.length ≤ 4096 := by
          rw [hL]
          exact Nat.le_trans (partK_len g _) hmx.out
        refine (callsIn_wide.2 (SortFunc_any L (fun x hx => by
          have h1 := partK_bd HR.out _ (Nat.le_refl _) x (by rw [hL] at hx; exact hx)
          omega) _ _ H.out.own hlen)).mono ?_
        rintro e w5 ⟨rfl, ⟨av', cv', hv, hcI⟩, hbe, hch⟩
        cases hv
        have HCI := Lib.hid hcI
        have HBE := Lib.hid hbe
        have HCH := Lib.hid hch
        have HL := Lib.hid hL
        clear hcI hbe hch hL
        gi_wp2
        have hlen2 : (partsL g).length = L.length := by
          unfold partsL
          rw [if_neg (by simp [H0.out]), List.length_mergeSort, HL.out]
        have hval : partsL g = L.mergeSort fun x y => decide (y ≤ x) := by
          unfold partsL
          rw [if_neg (by simp [H0.out]), HL.out]
        refine leaves_keep (n := W0.heap.size) (v := .tuple #[.slice av L.length cv, .int .i64 0]) (fun w => (results_tmp2 (t := 2) (u := 3) rfl _ _ _).trans rfl) _ _
          (H.out.ms.kept fun D hD ho => (HCH.out.2 D (Array.getElem?_eq_some_iff.1 ho).1 (fun e => by have := H.out.own.isCells e ho; cases this)).trans ho) (fun w' hw' => ?_)
        refine ⟨av, cv, by rw [hlen2, H0.out], ?_, ?_⟩
        · rw [hval]; exact HCI.out.keep hw'
        · have z9 : w.heap.size ≤ W0.heap.size := EW.size
          have z8 : W0.heap.size ≤ wr.heap.size := H.out.be.size
          exact Below.trans (Below.trans (Below.trans EW (H.out.be.mono (by omega))) (HBE.out _ (by omega) (fun b hb => by have := H.out.vb b hb; omega))) (hw'.1.mono z9)
  · have hv : Hid (partsL g = []) := by show _ = _; unfold partsL; rw [if_pos h0]
    have hb : (chk g != 0) = true := by simp [h0]
    have hb2 : (chk g == 0) = false := by simp [h0]
    clear h0
    gi_wp2
    refine leaves_marks (n := w.heap.size) (v := .tuple #[.slice none 0 0, .int .i64 (chk g)]) (fun w => (results_tmp2 (t := 2) (u := 3) rfl _ _ _).trans rfl) _ _ (Marks.nil _ _) (fun w' hw' => ?_)
    refine ⟨none, 0, ?_, ?_, ?_⟩
    · rw [hv.out]; rfl
    · rw [hv.out]; exact CellsI.nil _ _
    · exact Below.trans E1 hw'
end Go.Proofs.Ytfigooilhnahfaa
/- The reference's neighbours. -/
namespace Go.Proofs.Ytfigooilhnahfaa
open Go.RowKit

theorem near_step {g : Gr} {p : Pt} {k : Nat} (hk : k < 4) : ((nbs p).take (k + 1)).filter (opn g) = ((nbs p).take k).filter (opn g) ++ (if opn g (pt (nbs p) k) = true then [pt (nbs p) k] else []) := by
  have hl : k < (nbs p).length := hk
  rw [List.take_succ_eq_append_getElem hl, List.filter_append]
  congr 1
  have e : (nbs p)[k] = pt (nbs p) k := by unfold pt; rw [List.getD_eq_getElem?_getD, List.getElem?_eq_getElem hl]; simp
  rw [e]
  by_cases h : opn g (pt (nbs p) k) = true <;> simp [h]

set_option maxHeartbeats 2000000 in
set_option maxRecDepth 100000 in
theorem Near_any (g : Gr) (p : Pt) (ga : Option Addr) (gc : Nat) (w : World) (hg : g.bl.length ≤ maxLen) (hp : InG p) (hc : Cells2 w ga g.bl) :
    Calls Try.prog 73 #[.agg #[.int .i64 g.rows, .int .i64 g.cols, .slice ga g.bl.length gc], .agg #[.int .i64 p.1, .int .i64 p.2]] w fun e w' => ∃ v, e = .returned v ∧ Owns w' v (near g p) ∧ (∀ b, v.ownBlock = some b → w.heap.size ≤ b) ∧ Ext w w' := by
  have HC : Hid (Cells2 w ga g.bl) := hc
  have HG := Lib.hid hg
  have HP := Lib.hid hp
  obtain ⟨p1, p2, p3, p4⟩ := hp
  have x1 : IntKind.i64.wrap (p.1 - 1) = p.1 - 1 := IntWalk.i64_in _ (by omega)
  have x2 : IntKind.i64.wrap (p.2 - 1) = p.2 - 1 := IntWalk.i64_in _ (by omega)
  have x3 : IntKind.i64.wrap (p.1 + 1) = p.1 + 1 := IntWalk.i64_in _ (by omega)
  have x4 : IntKind.i64.wrap (p.2 + 1) = p.2 + 1 := IntWalk.i64_in _ (by omega)
  clear hc hg
  go_enter Try.func73, Try.ntmps73
  go_wp2
  obtain ⟨n, hn⟩ : ∃ n, n = w.heap.size := ⟨_, rfl⟩
  have E0 : Ext w (((( ((w).alloc (.cells #[.int .i64 g.rows, .int .i64 g.cols, .slice ga g.bl.length gc] 24))).alloc (.cells #[.int .i64 p.1, .int .i64 p.2] 26))).alloc (.cells #[.int .i64 (p.1 - 1), .int .i64 p.2, .int .i64 p.1, .int .i64 (p.2 - 1), .int .i64 p.1, .int .i64 (p.2 + 1), .int .i64 (p.1 + 1), .int .i64 p.2] 26)) := (((Ext.refl _).alloc _).alloc _).alloc _
  have g1 : (((( ((w).alloc (.cells #[.int .i64 g.rows, .int .i64 g.cols, .slice ga g.bl.length gc] 24))).alloc (.cells #[.int .i64 p.1, .int .i64 p.2] 26))).alloc (.cells #[.int .i64 (p.1 - 1), .int .i64 p.2, .int .i64 p.1, .int .i64 (p.2 - 1), .int .i64 p.1, .int .i64 (p.2 + 1), .int .i64 (p.1 + 1), .int .i64 p.2] 26)).cell? ⟨w.heap.size, 0, none⟩ = some (.int .i64 g.rows) := by clear hn; go_simp
  have g2 : (((( ((w).alloc (.cells #[.int .i64 g.rows, .int .i64 g.cols, .slice ga g.bl.length gc] 24))).alloc (.cells #[.int .i64 p.1, .int .i64 p.2] 26))).alloc (.cells #[.int .i64 (p.1 - 1), .int .i64 p.2, .int .i64 p.1, .int .i64 (p.2 - 1), .int .i64 p.1, .int .i64 (p.2 + 1), .int .i64 (p.1 + 1), .int .i64 p.2] 26)).cell? ⟨w.heap.size, 1, none⟩ = some (.int .i64 g.cols) := by clear hn; go_simp
  have g3 : (((( ((w).alloc (.cells #[.int .i64 g.rows, .int .i64 g.cols, .slice ga g.bl.length gc] 24))).alloc (.cells #[.int .i64 p.1, .int .i64 p.2] 26))).alloc (.cells #[.int .i64 (p.1 - 1), .int .i64 p.2, .int .i64 p.1, .int .i64 (p.2 - 1), .int .i64 p.1, .int .i64 (p.2 + 1), .int .i64 (p.1 + 1), .int .i64 p.2] 26)).cell? ⟨w.heap.size, 2, none⟩ = some (.slice ga g.bl.length gc) := by clear hn; go_simp
  have zW : (((( ((w).alloc (.cells #[.int .i64 g.rows, .int .i64 g.cols, .slice ga g.bl.length gc] 24))).alloc (.cells #[.int .i64 p.1, .int .i64 p.2] 26))).alloc (.cells #[.int .i64 (p.1 - 1), .int .i64 p.2, .int .i64 p.1, .int .i64 (p.2 - 1), .int .i64 p.1, .int .i64 (p.2 + 1), .int .i64 (p.1 + 1), .int .i64 p.2] 26)).heap.size = n + 3 := by rw [hn]; simp
  have HN : Hid (Cells2 (((( ((w).alloc (.cells #[.int .i64 g.rows, .int .i64 g.cols, .slice ga g.bl.length gc] 24))).alloc (.cells #[.int .i64 p.1, .int .i64 p.2] 26))).alloc (.cells #[.int .i64 (p.1 - 1), .int .i64 p.2, .int .i64 p.1, .int .i64 (p.2 - 1), .int .i64 p.1, .int .i64 (p.2 + 1), .int .i64 (p.1 + 1), .int .i64 p.2] 26)) (some ⟨w.heap.size + 1 + 1, 0, none⟩) (nbs p)) := fun i hi => by
    have : i = 0 ∨ i = 1 ∨ i = 2 ∨ i = 3 := by simp [nbs] at hi; omega
    clear hn zW
    rcases this with rfl | rfl | rfl | rfl <;> exact ⟨_, 0, rfl, by simp only [nbs, pt]; go_simp, by simp only [nbs, pt]; go_simp⟩
  rw [← hn] at g1 g2 g3 HN ⊢
  have z0 : w.heap.size ≤ n := by omega
  clear hn
  generalize (((( ((w).alloc (.cells #[.int .i64 g.rows, .int .i64 g.cols, .slice ga g.bl.length gc] 24))).alloc (.cells #[.int .i64 p.1, .int .i64 p.2] 26))).alloc (.cells #[.int .i64 (p.1 - 1), .int .i64 p.2, .int .i64 p.1, .int .i64 (p.2 - 1), .int .i64 p.1, .int .i64 (p.2 + 1), .int .i64 (p.1 + 1), .int .i64 p.2] 26)) = W at E0 g1 g2 g3 zW HN ⊢
  have HCW := Lib.hid (HC.out.ext E0)
  have HBL : Hid (g.bl ≠ [] → ∀ b off, ga = some ⟨b, off, none⟩ → b < W.heap.size) := fun hne b off hb => HCW.out.lt hne hb
  clear HC x1 x2 x3 x4
  go_loopw [5, 34] (fun v i wr => ∃ (k : Nat) (N : List Pt) (av : Option Addr) (cv : Nat), k ≤ 4 ∧ i = .int .i64 k ∧ v = .slice av N.length cv ∧ Hid (N = ((nbs p).take k).filter (opn g)) ∧ Hid (Owns wr (.slice av N.length cv) N) ∧ Hid (∀ b, (Value.slice av N.length cv).ownBlock = some b → W.heap.size ≤ b) ∧ Hid (Below W.heap.size W wr)) (fun _ i _ => 4 - (intOf i).toNat)
  case atStart => exact ⟨0, [], none, 0, by omega, rfl, rfl, rfl, Owns.nil _, fun b hb => (by cases hb), Below.refl _ _⟩
  case round =>
    obtain ⟨k, N, av, cv, hk, rfl, rfl, hN, hO, hV, hB⟩ := hrel
    have zwr : W.heap.size ≤ wr.heap.size := hB.out.size
    by_cases hlt : k < 4
    · have hlt' : (k : Int) < 4 := by omega
      have d1 : wr.cell? ⟨n, 0, none⟩ = some (.int .i64 g.rows) := (hB.out.cell (p := ⟨n, 0, none⟩) (by show n < _; omega)).trans g1
      have d2 : wr.cell? ⟨n, 1, none⟩ = some (.int .i64 g.cols) := (hB.out.cell (p := ⟨n, 1, none⟩) (by show n < _; omega)).trans g2
      have d3 : wr.cell? ⟨n, 2, none⟩ = some (.slice ga g.bl.length gc) := (hB.out.cell (p := ⟨n, 2, none⟩) (by show n < _; omega)).trans g3
      obtain ⟨nb, no, hnb, e1, e2⟩ := HN.out k hlt
      cases hnb
      simp only [Nat.zero_add] at e1 e2
      have e1 : wr.cell? ⟨n + 1 + 1, k * 2, none⟩ = some (.int .i64 (pt (nbs p) k).1) := (hB.out.cell (p := ⟨n + 1 + 1, k * 2, none⟩) (by show n + 1 + 1 < _; omega)).trans e1
      have e2 : wr.cell? ⟨n + 1 + 1, k * 2 + 1, none⟩ = some (.int .i64 (pt (nbs p) k).2) := (hB.out.cell (p := ⟨n + 1 + 1, k * 2 + 1, none⟩) (by show n + 1 + 1 < _; omega)).trans e2
      have HCr : Hid (Cells2 wr ga g.bl) := Cells2.kept (Kd := fun k => k < W.heap.size) (n := 0) ⟨hB.out.size, fun k o hk ho _ => by rw [hB.out.block k hk]; exact ho⟩ (fun b off hb hne => HBL.out hne b off hb) HCW.out
      have hst := near_step (g := g) (p := p) hlt
      generalize pt (nbs p) k = q at e1 e2 hst
      have HST := Lib.hid hst
      clear hst
      have zn : n < wr.heap.size := by omega
      go_wp2_with fail
      refine (Cell_any g q _ _).mono ?_
      rintro e w1 ⟨rfl, hE⟩
      have EE : Ext wr w1 := ((Ext.refl _).alloc _).trans hE
      have q1 : w1.cell? ⟨wr.heap.size, 0, none⟩ = some (.int .i64 q.1) := hE.cell (by go_simp)
      have q2 : w1.cell? ⟨wr.heap.size, 1, none⟩ = some (.int .i64 q.2) := hE.cell (by go_simp)
      have d1 := EE.cell d1
      have d2 := EE.cell d2
      have d3 := EE.cell d3
      have HC1 := Lib.hid (HCr.out.ext EE)
      have HO1 := Lib.hid (hO.out.ext EE)
      have HB1 := Lib.hid (hB.out.trans (EE.mono zwr))
      have z1 : wr.heap.size < w1.heap.size := cell_lt q1
      have zn1 : n < w1.heap.size := by omega
      clear hE EE hO hB HCr e1 e2
      have hlenN : N.length ≤ 4 := by
        rw [hN.out]
        refine Nat.le_trans (List.length_filter_le _ _) ?_
        simp; omega
      cases hin : inside g q
      · have HST2 : Hid (((nbs p).take (k + 1)).filter (opn g) = ((nbs p).take k).filter (opn g)) := by
          show _ = _
          rw [HST.out, if_neg (by unfold opn; rw [hin]; simp), List.append_nil]
        have HIN := Lib.hid hin
        clear hin
        go_wp2
        exact ⟨⟨k + 1, N, av, cv, by omega, by go_num, rfl, by show _ = _; rw [HST2.out]; exact hN.out, HO1.out, hV.out, HB1.out⟩, by simp [intOf]; omega⟩
      · have HIN := Lib.hid hin
        clear hin
        go_wp2_with fail
        refine (Has_any g.bl q ga gc _ HG.out HC1.out).mono ?_
        rintro e w2 ⟨rfl, hE⟩
        have q1 := hE.cell q1
        have q2 := hE.cell q2
        have HO2 := Lib.hid (HO1.out.ext hE)
        have zh2 : w1.heap.size ≤ w2.heap.size := hE.size
        have HB2 := Lib.hid (HB1.out.trans (hE.mono (by omega)))
        clear hE HO1 HB1 d1 d2 d3
        by_cases hm : q ∈ g.bl
        · have HST2 : Hid (((nbs p).take (k + 1)).filter (opn g) = ((nbs p).take k).filter (opn g)) := by
            show _ = _
            rw [HST.out, if_neg (by unfold opn blk; simp [hm]), List.append_nil]
          have hd : decide (q ∈ g.bl) = true := by simp [hm]
          rw [hd]
          clear hm hd
          go_wp2
          exact ⟨⟨k + 1, N, av, cv, by omega, by go_num, rfl, by show _ = _; rw [HST2.out]; exact hN.out, HO2.out, hV.out, HB2.out⟩, by simp [intOf]; omega⟩
        · have HST2 : Hid (((nbs p).take (k + 1)).filter (opn g) = ((nbs p).take k).filter (opn g) ++ [q]) := by
            show _ = _
            rw [HST.out, if_pos (by unfold opn blk; simp [hm, HIN.out])]
          have hd : decide (q ∈ g.bl) = false := by simp [hm]
          rw [hd]
          clear hm hd
          obtain ⟨i0, hi, hi0, hi1, hi2⟩ := info_parts infoPl
          go_wp2_with (at_builtin; refine wpList_append1 _ rfl _ _ 22 rfl 26 i0 (.agg #[.int .i64 0, .int .i64 0]) 2 16 Try.underlying22 hi hi0 hi1 hi2 rfl (by decide) (.slice av N.length cv) _ _ rfl (HO2.out.ext ((Ext.refl _).alloc _)) ⟨w2.heap.size, 0, none⟩ 1 1 (by decide) [.int .i64 q.1, .int .i64 q.2] rfl rfl (cell_two_new _ _ _ _) ?c1 ?c2 ?c3 ?c4)
          case c1 => intro u hu; simp at hu; rcases hu with rfl | rfl <;> rfl
          case c2 => unfold maxLen; omega
          case c3 => omega
          case c4 =>
            intro v' w5 hown5 hend5
            have O5 := owns_succ hown5
            obtain ⟨av', cv', rfl, _, hbk⟩ := O5.reads
            have HO5 := Lib.hid O5
            have HEND := Lib.hid hend5
            clear hown5 hend5 O5 hbk
            go_wp2
            refine ⟨⟨k + 1, N ++ [q], av', cv', by omega, by go_num, by first | rfl | (rw [List.length_append, List.length_singleton]), by show _ = _; rw [HST2.out, hN.out], HO5.out, fun b hb => ?_, (HB2.out.alloc (by omega) _).trans (HEND.out.below (by simp; omega) (fun b hb => hV.out b hb))⟩, by simp [intOf]; omega⟩
            rcases HEND.out with ⟨h1, _, _⟩ | ⟨h1, _⟩
            · rw [h1] at hb; exact hV.out b hb
            · rw [h1] at hb
              have hb' : b = (w2.alloc (.cells #[.int .i64 q.1, .int .i64 q.2] 26)).heap.size := by cases hb; rfl
              simp at hb'
              omega
    · have hk4 : k = 4 := by omega
      subst hk4
      go_wp2
      go_ret
      have hNN : N = near g p := hN.out
      refine ⟨_, rfl, by rw [← hNN]; exact hO.out, fun b hb => Nat.le_trans E0.size (hV.out b hb), Below.trans E0 (hB.out.mono (by omega))⟩
end Go.Proofs.Ytfigooilhnahfaa
