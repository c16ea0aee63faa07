/- Steps of the proof: OwnI, LawFn, Meet, Far, Few, MeetR. No conditions. -/
import Derived.Laws.ResultCell
import Derived.BigRegion
import Derived.Test.YtfigooilhnahfaaZVerifies1
import Derived.Test.YtfigooilhnahfaaZVerifies2
import Derived.Test.YtfigooilhnahfaaZVerifies3
/- Slices of numbers of one's own. -/
namespace Go.Proofs.Ytfigooilhnahfaa
open Go.RowKit

def CellsI (w : World) (a : Option Addr) (l : List Int) : Prop := ∀ i, i < l.length → ∃ b off, a = some ⟨b, off, none⟩ ∧ w.cell? ⟨b, off + i, none⟩ = some (.int .i64 (l.getD i 0))
theorem CellsI.ext {w w' : World} {a : Option Addr} {l : List Int} (h : CellsI w a l) (he : Ext w w') : CellsI w' a l := fun i hi => by
  obtain ⟨b, off, h1, h2⟩ := h i hi
  exact ⟨b, off, h1, he.cell h2⟩
theorem CellsI.nil (w : World) (a : Option Addr) : CellsI w a [] := fun i hi => by simp at hi

def vals (l : List Int) : List Value := l.map (Value.int .i64)
/-- the slice value v owns the numbers l -/
def OwnsI (w : World) (v : Value) (l : List Int) : Prop := w.ownsRow 0 3 1 v l.length (vals l)
theorem OwnsI.nil (w : World) : OwnsI w (.slice none 0 0) [] := World.ownsRow_nil w 0 _ _
theorem OwnsI.kept {X : Nat → Prop} {n : Nat} {A B : World} {v : Value} {N : List Int} (ho : OwnsI A v N) (h : Kept X n A B) (hk : ∀ b, v.ownBlock = some b → X b) : OwnsI B v N := by
  obtain ⟨h1, h2⟩ := ho
  refine ⟨h1, ?_⟩
  rcases h2 with h2 | ⟨g, cap, cur, hv, hg, hh, r⟩
  · exact .inl h2
  · exact .inr ⟨g, cap, cur, hv, hg, h.2 g _ (hk g (by rw [hv]; rfl)) hh (.inl rfl), r⟩
theorem OwnsI.ext {A B : World} {v : Value} {N : List Int} (ho : OwnsI A v N) (h : Ext A B) : OwnsI B v N := ho.kept (Kept.ext h (fun _ => True) 0) (fun _ _ => trivial)
theorem OwnsI.lt {A : World} {v : Value} {N : List Int} (ho : OwnsI A v N) {b : Nat} (hb : v.ownBlock = some b) : b < A.heap.size := (World.ownsRow.lt ho b hb).2
theorem OwnsI.keep {m : Nat} {A B : World} {v : Value} {N : List Int} (ho : OwnsI A v N) (h : Keep m A B) : OwnsI B v N := by
  obtain ⟨h1, h2⟩ := ho
  refine ⟨h1, ?_⟩
  rcases h2 with h2 | ⟨g, cap, cur, hv, hg, hh, r⟩
  · exact .inl h2
  · exact .inr ⟨g, cap, cur, hv, hg, h.2 g _ hh rfl, r⟩
theorem OwnsI.reads {A : World} {v : Value} {N : List Int} (ho : OwnsI A v N) : ∃ a cap, v = .slice a N.length cap ∧ CellsI A a N ∧ (N = [] ∨ ∃ b, a = some ⟨b, 0, none⟩ ∧ v.ownBlock = some b ∧ ∀ i, i < N.length → A.cell? ⟨b, i, none⟩ = some (.int .i64 (N.getD i 0)) ∧ A.frozen? ⟨b, i, none⟩ = false) := by
  rcases ho.2 with ⟨hv, hn⟩ | ⟨g, cap, cur, hv, hg, hh, hnc, hm, hcs, ht⟩
  · have : N = [] := List.eq_nil_of_length_eq_zero hn
    subst this
    exact ⟨none, 0, hv, CellsI.nil _ _, .inl rfl⟩
  · have key : ∀ i, i < N.length → A.cell? ⟨g, i, none⟩ = some (.int .i64 (N.getD i 0)) := fun i hi => by
      have hc := World.ownsRow.cells ho (g := g) (by rw [hv]; rfl)
      have := hc i (.int .i64 (N.getD i 0)) (by simp [vals, List.getD, hi])
      rwa [Addr.add_lit, Nat.zero_add] at this
    refine ⟨some ⟨g, 0, none⟩, cap, hv, fun i hi => ⟨g, 0, rfl, by rw [Nat.zero_add]; exact key i hi⟩, .inr ⟨g, rfl, by rw [hv]; rfl, fun i hi => ⟨key i hi, ?_⟩⟩⟩
    have ho' : A.ownsRow 0 3 1 (.slice (some ⟨g, 0, none⟩) N.length cap) N.length (vals N) := by have h9 := ho; unfold OwnsI at h9; rw [hv] at h9; exact h9
    exact ho'.frozenAt i
theorem OwnsI.isCells {A : World} {v : Value} {N : List Int} (h : OwnsI A v N) {b : Nat} (hb : v.ownBlock = some b) {o : Obj} (ho : A.heap[b]? = some o) : o.isCells = true := by
  rcases h.2 with ⟨hv, _⟩ | ⟨g, cap, cur, hv, _, hh, _⟩
  · rw [hv] at hb; cases hb
  · rw [hv] at hb; cases hb
    rw [hh] at ho; cases ho; rfl
theorem ownsI_succ {w : World} {v : Value} {N : List Int} {x : Int} (h : w.ownsRow 0 3 1 v (N.length + 1) (vals N ++ [.int .i64 x])) : OwnsI w v (N ++ [x]) := by
  unfold OwnsI vals
  rw [List.length_append, List.length_singleton, List.map_append]
  exact h
theorem infoInt : (Try.prog.info? 3).map (fun i => (i.zero, i.size, i.bytes)) = some (some (.int .i64 0), 1, 8) := by kernel_rfl
theorem cell_one_int (w : World) (a : Value) (t : TypeId) : ∀ j u, ([a] : List Value)[j]? = some u → (w.alloc (.cells #[a] t)).cell? ((⟨w.heap.size, 0, none⟩ : Addr).add j) = some u := by
  intro j u h
  match j, h with
  | 0, h => simp at h; subst h; rw [Addr.add_lit, World.cell?_alloc_new]; rfl
end Go.Proofs.Ytfigooilhnahfaa
/- at, sent, Wall of the law's package; results that lie in memory. -/
namespace Go.Proofs.Ytfigooilhnahfaa
open Go.RowKit

theorem results_cell1 {fn : Func} {p : Tmp} {ty : TypeId} (h : fn.results = #[.cell p ty]) (tmps : Array Value) (P : Program) (w : World) :
    (results fn tmps).run P w = ((asAddr (tmps.getD p undef)).run P w).andThen fun a w₁ => (loadVar ty a).run P w₁ := by
  simp only [results, h]
  simp [Sem.run_bind, Result.andThen]
theorem results_cell_tmp2 {fn : Func} {p u v : Tmp} {ty : TypeId} (h : fn.results = #[.cell p ty, .tmp u, .tmp v]) (tmps : Array Value) (P : Program) (w : World) :
    (results fn tmps).run P w =
      ((asAddr (tmps.getD p undef)).run P w).andThen fun a w₁ => ((loadVar ty a).run P w₁).andThen fun x w₂ => .ok (.tuple #[x, tmps.getD u undef, tmps.getD v undef]) w₂ := by
  simp only [results, h]
  simp [Sem.run_bind, Result.andThen]

theorem Ext.frozen {w w' : World} (h : Ext w w') {p : Addr} (hp : p.block < w.heap.size) : w'.frozen? p = w.frozen? p := Below.frozen h hp

theorem Sees.store {W w' X : World} (h : Sees W w') (hx : Sees W X) (o : Nat) (v : Value) : Sees W (w'.setCell ⟨X.heap.size, o, none⟩ v) := sees (Below.setCell (p := ⟨X.heap.size, o, none⟩) h.2.2 hx.2.2.size v)
theorem new2_c0 (w : World) (a b : Value) (t : TypeId) : (w.alloc (.cells #[a, b] t)).cell? ⟨w.heap.size, 0, none⟩ = some a := by rw [World.cell?_alloc_new]; rfl
theorem new2_c1 (w : World) (a b : Value) (t : TypeId) : (w.alloc (.cells #[a, b] t)).cell? ⟨w.heap.size, 1, none⟩ = some b := by rw [World.cell?_alloc_new]; rfl
theorem new2_f (w : World) (a b : Value) (t : TypeId) (i : Nat) : (w.alloc (.cells #[a, b] t)).frozen? ⟨w.heap.size, i, none⟩ = false := World.frozen?_alloc_new _ _ _ _
/-- a new block of two cells is there behind a call -/
structure New2 (w : World) (pb : Nat) (a b : Value) : Prop where
  c0 : w.cell? ⟨pb, 0, none⟩ = some a
  c1 : w.cell? ⟨pb, 1, none⟩ = some b
  f0 : w.frozen? ⟨pb, 0, none⟩ = false
  f1 : w.frozen? ⟨pb, 1, none⟩ = false
theorem New2.ext {A B : World} {pb : Nat} {a b : Value} (h : New2 A pb a b) (x : Ext A B) : New2 B pb a b :=
  ⟨x.cell h.c0, x.cell h.c1, (x.frozen (p := ⟨pb, 0, none⟩) (cell_lt h.c0)).trans h.f0, (x.frozen (p := ⟨pb, 1, none⟩) (cell_lt h.c1)).trans h.f1⟩
theorem New2.made (w : World) (a b : Value) (t : TypeId) : New2 (w.alloc (.cells #[a, b] t)) w.heap.size a b := ⟨new2_c0 _ _ _ _, new2_c1 _ _ _ _, new2_f _ _ _ _ _, new2_f _ _ _ _ _⟩
theorem New2.drew {w : World} {pb : Nat} {a b : Value} (h : New2 w pb a b) : New2 w.drew pb a b := h.ext (Ext.refl _).drew

theorem at_any (a b : Int) (w : World) :
    Calls Try.prog 45 #[.int .i64 a, .int .i64 b] w fun e w' => e = .returned (.agg #[.int .i64 a, .int .i64 b]) ∧ Ext w w' := by
  go_enter Try.func45, Try.ntmps45
  go_wp2
  try simp only [Exit.inBlock, Exit.then]
  refine bodyPost_ret (v := .agg #[.int .i64 a, .int .i64 b]) (by rw [results_cell1 rfl]; go_simp) rfl ⟨rfl, (Ext.refl _).alloc _⟩
theorem sent_any (g : Gr) (ga : Option Addr) (gc : Nat) (w : World) :
    Calls Try.prog 15 #[.agg #[.int .i64 g.rows, .int .i64 g.cols, .slice ga g.bl.length gc]] w fun e w' => e = .returned (.agg #[.int .i64 g.rows, .int .i64 g.cols, .slice ga g.bl.length gc]) ∧ Ext w w' := by
  go_enter Try.func15, Try.ntmps15
  go_wp2
  try simp only [Exit.inBlock, Exit.then]
  refine bodyPost_ret (v := .agg #[.int .i64 g.rows, .int .i64 g.cols, .slice ga g.bl.length gc]) (by rw [results_cell1 rfl]; go_simp) rfl ⟨rfl, ((Ext.refl _).alloc _).alloc _⟩

def wallG : Gr := ⟨3, 4, [(1, 1), (1, 2)]⟩
theorem Wall_any (w : World) :
    Calls Try.prog 44 #[] w fun e w' => ∃ a, e = .returned (.agg #[.int .i64 3, .int .i64 4, .slice a 2 2]) ∧ Cells2 w' a wallG.bl ∧ Ext w w' := by
  go_enter Try.func44, Try.ntmps44
  go_wp2_with fail
  refine (at_any 1 1 _).mono ?_
  rintro e w1 ⟨rfl, hE⟩
  have E1 : Ext w w1 := ((Ext.refl w).alloc _).trans hE
  have c1 : w1.cell? ⟨w.heap.size, 0, none⟩ = some (.int .i64 0) := hE.cell (by go_simp)
  have c2 : w1.cell? ⟨w.heap.size, 1, none⟩ = some (.int .i64 0) := hE.cell (by go_simp)
  have c3 : w1.cell? ⟨w.heap.size, 2, none⟩ = some (.slice none 0 0) := hE.cell (by go_simp)
  have f1 : w1.frozen? ⟨w.heap.size, 0, none⟩ = false := (hE.frozen (p := ⟨w.heap.size, 0, none⟩) (by simp)).trans (by go_simp)
  have f2 : w1.frozen? ⟨w.heap.size, 1, none⟩ = false := (hE.frozen (p := ⟨w.heap.size, 1, none⟩) (by simp)).trans (by go_simp)
  have f3 : w1.frozen? ⟨w.heap.size, 2, none⟩ = false := (hE.frozen (p := ⟨w.heap.size, 2, none⟩) (by simp)).trans (by go_simp)
  go_wp2_with fail
  refine (at_any 1 2 _).mono ?_
  rintro e w2 ⟨rfl, hE2⟩
  have d1 := hE2.cell c1
  have d2 := hE2.cell c2
  have d3 := hE2.cell c3
  have g1 := (hE2.frozen (p := ⟨w.heap.size, 0, none⟩) (cell_lt c1)).trans f1
  have g2 := (hE2.frozen (p := ⟨w.heap.size, 1, none⟩) (cell_lt c2)).trans f2
  have g3 := (hE2.frozen (p := ⟨w.heap.size, 2, none⟩) (cell_lt c3)).trans f3
  have zz : w.heap.size < w2.heap.size := cell_lt d1
  clear c1 c2 c3 f1 f2 f3
  go_wp2
  try simp only [Exit.inBlock, Exit.then]
  refine bodyPost_ret (v := .agg #[.int .i64 3, .int .i64 4, .slice (some ⟨w2.heap.size, 0, none⟩) 2 2]) (by rw [results_cell1 rfl]; go_simp) rfl ⟨_, rfl, ?_, ?_⟩
  · refine cells2_two ?_ ?_ ?_ ?_ <;> go_simp
  · exact Below.alloc (Below.setCell (p := ⟨_, 2, none⟩) (Below.setCell (p := ⟨_, 1, none⟩) (Below.setCell (p := ⟨_, 0, none⟩) (E1.trans hE2) (Nat.le_refl _) _) (Nat.le_refl _) _) (Nat.le_refl _) _) (by simp; omega) _
end Go.Proofs.Ytfigooilhnahfaa
/- Meet. -/
namespace Go.Proofs.Ytfigooilhnahfaa
open Go.RowKit

/-- the k-th cell, row by row -/
def cellAt (g : Gr) (k : Nat) : Pt := (((k / g.cols.toNat : Nat) : Int), ((k % g.cols.toNat : Nat) : Int))
def meetStep (A B C : Pt → Int) (s : Int × Pt) (p : Pt) : Int × Pt :=
  if A p < 0 then s else if s.1 < 0 ∨ A p + B p + C p < s.1 then (A p + B p + C p, p) else s
/-- the best place among the first k cells -/
def meetK (g : Gr) (A B C : Pt → Int) : Nat → Int × Pt
  | 0 => (-1, (0, 0))
  | k + 1 => meetStep A B C (meetK g A B C k) (cellAt g k)
def meetV (g : Gr) (p q r : Pt) : Int × Pt := meetK g (dst g p) (dst g q) (dst g r) (g.rows.toNat * g.cols.toNat)
def meetBad (g : Gr) (p q r : Pt) : Bool := decide (dst g p q < 0) || decide (dst g p r < 0)
def meetN (g : Gr) (p q r : Pt) : Int := if givenErr g [p, q, r] ≠ 0 then 0 else if meetBad g p q r = true then 0 else (meetV g p q r).1
def meetP (g : Gr) (p q r : Pt) : Pt := if givenErr g [p, q, r] ≠ 0 then (0, 0) else if meetBad g p q r = true then (0, 0) else (meetV g p q r).2
def meetE (g : Gr) (p q r : Pt) : Int := if givenErr g [p, q, r] ≠ 0 then givenErr g [p, q, r] else if meetBad g p q r = true then 6 else 0

theorem cells2_three {w : World} {b : Nat} {p q r : Pt} (h1 : w.cell? ⟨b, 0, none⟩ = some (.int .i64 p.1)) (h2 : w.cell? ⟨b, 1, none⟩ = some (.int .i64 p.2)) (h3 : w.cell? ⟨b, 2, none⟩ = some (.int .i64 q.1)) (h4 : w.cell? ⟨b, 3, none⟩ = some (.int .i64 q.2)) (h5 : w.cell? ⟨b, 4, none⟩ = some (.int .i64 r.1)) (h6 : w.cell? ⟨b, 5, none⟩ = some (.int .i64 r.2)) :
    Cells2 w (some ⟨b, 0, none⟩) [p, q, r] := fun i hi => by
  have : i = 0 ∨ i = 1 ∨ i = 2 := by simp at hi; omega
  rcases this with rfl | rfl | rfl
  · exact ⟨b, 0, rfl, by simpa [pt] using h1, by simpa [pt] using h2⟩
  · exact ⟨b, 0, rfl, by simpa [pt] using h3, by simpa [pt] using h4⟩
  · exact ⟨b, 0, rfl, by simpa [pt] using h5, by simpa [pt] using h6⟩

/-- what stands fixed while Meet runs -/
structure MtFix (g : Gr) (p q r : Pt) (ga : Option Addr) (gc n : Nat) (W : World) : Prop where
  a1 : W.cell? ⟨n, 0, none⟩ = some (.int .i64 g.rows)
  a2 : W.cell? ⟨n, 1, none⟩ = some (.int .i64 g.cols)
  a3 : W.cell? ⟨n, 2, none⟩ = some (.slice ga g.bl.length gc)
  p1 : W.cell? ⟨n + 1, 0, none⟩ = some (.int .i64 p.1)
  p2 : W.cell? ⟨n + 1, 1, none⟩ = some (.int .i64 p.2)
  p3 : W.cell? ⟨n + 1, 2, none⟩ = some (.int .i64 q.1)
  p4 : W.cell? ⟨n + 1, 3, none⟩ = some (.int .i64 q.2)
  p5 : W.cell? ⟨n + 1, 4, none⟩ = some (.int .i64 r.1)
  p6 : W.cell? ⟨n + 1, 5, none⟩ = some (.int .i64 r.2)
  c1 : W.cell? ⟨n + 1 + 1, 0, none⟩ = some (.int .i64 0)
  c2 : W.cell? ⟨n + 1 + 1, 1, none⟩ = some (.int .i64 0)
  f1 : W.frozen? ⟨n + 1 + 1, 0, none⟩ = false
  f2 : W.frozen? ⟨n + 1 + 1, 1, none⟩ = false
theorem MtFix.below {g : Gr} {p q r : Pt} {ga : Option Addr} {gc n m : Nat} {A B : World} (h : MtFix g p q r ga gc n A) (k : Below m A B) (hm : n + 1 + 1 < m) : MtFix g p q r ga gc n B :=
  ⟨(k.cell (p := ⟨n, 0, none⟩) (by show n < m; omega)).trans h.a1, (k.cell (p := ⟨n, 1, none⟩) (by show n < m; omega)).trans h.a2, (k.cell (p := ⟨n, 2, none⟩) (by show n < m; omega)).trans h.a3,
   (k.cell (p := ⟨n + 1, 0, none⟩) (by show n + 1 < m; omega)).trans h.p1, (k.cell (p := ⟨n + 1, 1, none⟩) (by show n + 1 < m; omega)).trans h.p2, (k.cell (p := ⟨n + 1, 2, none⟩) (by show n + 1 < m; omega)).trans h.p3,
   (k.cell (p := ⟨n + 1, 3, none⟩) (by show n + 1 < m; omega)).trans h.p4, (k.cell (p := ⟨n + 1, 4, none⟩) (by show n + 1 < m; omega)).trans h.p5, (k.cell (p := ⟨n + 1, 5, none⟩) (by show n + 1 < m; omega)).trans h.p6,
   (k.cell (p := ⟨n + 1 + 1, 0, none⟩) hm).trans h.c1, (k.cell (p := ⟨n + 1 + 1, 1, none⟩) hm).trans h.c2, (k.frozen (p := ⟨n + 1 + 1, 0, none⟩) hm).trans h.f1, (k.frozen (p := ⟨n + 1 + 1, 1, none⟩) hm).trans h.f2⟩
theorem MtFix.lt {g : Gr} {p q r : Pt} {ga : Option Addr} {gc n : Nat} {A : World} (h : MtFix g p q r ga gc n A) : n + 1 + 1 < A.heap.size := cell_lt h.c1
theorem MtFix.ext {g : Gr} {p q r : Pt} {ga : Option Addr} {gc n : Nat} {A B : World} (h : MtFix g p q r ga gc n A) (k : Ext A B) : MtFix g p q r ga gc n B := h.below k h.lt
/-- the three tables, and where they are named -/
structure MtFar (fb : Nat) (k : Nat) (t0 t1 t2 : Value) (W : World) : Prop where
  c0 : W.cell? ⟨fb, 0, none⟩ = some t0
  c1 : W.cell? ⟨fb, 1, none⟩ = some t1
  c2 : W.cell? ⟨fb, 2, none⟩ = some t2
  f0 : W.frozen? ⟨fb, 0, none⟩ = false
  f1 : W.frozen? ⟨fb, 1, none⟩ = false
  f2 : W.frozen? ⟨fb, 2, none⟩ = false
theorem MtFar.below {fb k m : Nat} {t0 t1 t2 : Value} {A B : World} (h : MtFar fb k t0 t1 t2 A) (x : Below m A B) (hm : fb < m) : MtFar fb k t0 t1 t2 B :=
  ⟨(x.cell (p := ⟨fb, 0, none⟩) hm).trans h.c0, (x.cell (p := ⟨fb, 1, none⟩) hm).trans h.c1, (x.cell (p := ⟨fb, 2, none⟩) hm).trans h.c2, (x.frozen (p := ⟨fb, 0, none⟩) hm).trans h.f0, (x.frozen (p := ⟨fb, 1, none⟩) hm).trans h.f1, (x.frozen (p := ⟨fb, 2, none⟩) hm).trans h.f2⟩
theorem MtFar.lt {fb k : Nat} {t0 t1 t2 : Value} {A : World} (h : MtFar fb k t0 t1 t2 A) : fb < A.heap.size := cell_lt h.c0
theorem MtFar.ext {fb k : Nat} {t0 t1 t2 : Value} {A B : World} (h : MtFar fb k t0 t1 t2 A) (x : Ext A B) : MtFar fb k t0 t1 t2 B := h.below x h.lt

theorem TabAt.ne {W : World} {fb tb : Nat} {D : Pt → Int} {x : Option Addr} (c : W.cell? ⟨fb, 0, none⟩ = some (.pointer x)) (h : TabAt W tb D) : fb ≠ tb := fun e => by
  have := (h (0, 0) ⟨by decide, by decide, by decide, by decide⟩).1
  subst e
  simp only [Int.toNat_zero, Nat.zero_mul, Nat.add_zero] at this
  rw [c] at this
  cases this
theorem TabAt.store {W : World} {tb : Nat} {D : Pt → Int} (h : TabAt W tb D) (p : Addr) (v : Value) (hne : p.block ≠ tb) : TabAt (W.setCell p v) tb D := fun q hq =>
  ⟨(World.cell?_setCell_other _ _ _ _ (fun e => hne (by rw [e]))).trans (h q hq).1, by rw [World.frozen?_setCell]; exact (h q hq).2⟩

theorem cellAt_mk {g : Gr} {i c : Nat} (hc : c < g.cols.toNat) : cellAt g (i * g.cols.toNat + c) = ((i : Int), (c : Int)) := by
  unfold cellAt
  have h0 : 0 < g.cols.toNat := by omega
  rw [Nat.mul_comm i, Nat.mul_add_div h0, Nat.mul_add_mod, Nat.div_eq_of_lt hc, Nat.mod_eq_of_lt hc, Nat.add_zero]
theorem dst_bd {g : Gr} (hr : Right g) {p : Pt} (hp : inside g p = true) (q : Pt) : -1 ≤ dst g p q ∧ dst g p q ≤ 4096 := by
  rcases dst_cases hr hp q with ⟨k, h, e⟩ | ⟨_, e⟩
  · have := IsD.lt hr hp h
    omega
  · omega
theorem meetK_bd {g : Gr} {A B C : Pt → Int} (h : ∀ x, -1 ≤ A x ∧ A x ≤ 4096 ∧ -1 ≤ B x ∧ B x ≤ 4096 ∧ -1 ≤ C x ∧ C x ≤ 4096) : ∀ k, -3 ≤ (meetK g A B C k).1 ∧ (meetK g A B C k).1 ≤ 12288 := by
  intro k
  induction k with
  | zero => simp [meetK]
  | succ k ih =>
    unfold meetK meetStep
    have := h (cellAt g k)
    split
    · exact ih
    · split
      · dsimp only; omega
      · exact ih

abbrev V3 (p q r : Pt) : Value := .agg #[.int .i64 p.1, .int .i64 p.2, .int .i64 q.1, .int .i64 q.2, .int .i64 r.1, .int .i64 r.2]

set_option maxHeartbeats 4000000 in
set_option maxRecDepth 100000 in
theorem Meet_any (g : Gr) (p q r : Pt) (ga : Option Addr) (gc : Nat) (w : World) (hg : g.bl.length ≤ maxLen) (hc : Cells2 w ga g.bl) :
    Calls Try.prog 14 #[.agg #[.int .i64 g.rows, .int .i64 g.cols, .slice ga g.bl.length gc], .agg #[.int .i64 p.1, .int .i64 p.2, .int .i64 q.1, .int .i64 q.2, .int .i64 r.1, .int .i64 r.2]] w fun e w' =>
      e = .returned (.tuple #[.agg #[.int .i64 (meetP g p q r).1, .int .i64 (meetP g p q r).2], .int .i64 (meetN g p q r), .int .i64 (meetE g p q r)]) ∧ Ext w w' := by
  have HC : Hid (Cells2 w ga g.bl) := hc
  have HG := Lib.hid hg
  clear hc hg
  obtain ⟨W0, hW0⟩ : ∃ W0, ((((w).alloc (.cells #[.int .i64 g.rows, .int .i64 g.cols, .slice ga g.bl.length gc] 33))).alloc (.cells #[.int .i64 p.1, .int .i64 p.2, .int .i64 q.1, .int .i64 q.2, .int .i64 r.1, .int .i64 r.2] 27)).alloc (.cells #[.int .i64 0, .int .i64 0] 26) = W0 := ⟨_, rfl⟩
  have E0 : Ext w W0 := by rw [← hW0]; exact (((Ext.refl _).alloc _).alloc _).alloc _
  have F0 : Hid (MtFix g p q r ga gc w.heap.size W0) := by
    rw [← hW0]; clear hW0
    exact ⟨by go_simp, by go_simp, by go_simp, by go_simp, by go_simp, by go_simp, by go_simp, by go_simp, by go_simp, by go_simp, by go_simp, by go_simp, by go_simp⟩
  obtain ⟨a1, a2, a3, p1, p2, p3, p4, p5, p6, c1, c2, f1, f2⟩ := F0.out
  have H3 : Hid (Cells2 W0 (some ⟨w.heap.size + 1, 0, none⟩) [p, q, r]) := cells2_three p1 p2 p3 p4 p5 p6
  go_enter Try.func14, Try.ntmps14
  go_wp2_with fail
  clear hW0
  have y1 := cell_lt a1; have y2 := cell_lt p1
  dsimp only at y1 y2
  go_region_held3 (fun w' => Sees W0 w') ((repeat (first | exact Sees.refl _ | assumption | apply Sees.drew | apply Sees.alloc | (refine Sees.ext ?_ (by assumption))))) (first | (go_at_call 48; refine (given_any g [p, q, r] ga gc _ _ _ HG.out (HC.out.ext (E0.trans (by exact (show Sees W0 _ by assumption).2.2))) (by simp [maxLen]) (H3.out.ext (by exact (show Sees W0 _ by assumption).2.2))).mono ?_; rintro e w' ⟨rfl, hE2⟩))
  have hS := (show Sees W0 _ by assumption).2.2
  have F1 : Hid (MtFix g p q r ga gc w.heap.size w') := F0.out.ext hS
  have E1 := E0.trans hS
  clear y1 y2 a1 a2 a3 p1 p2 p3 p4 p5 p6 c1 c2 f1 f2 H3 F0 E0 hS
  generalize w' = W1 at F1 E1 ⊢
  by_cases h0 : givenErr g [p, q, r] = 0
  · obtain ⟨hr, ho⟩ := given_ok h0
    have HR := Lib.hid hr
    have HP : Hid (inside g p = true) := opn_inside (ho p (by simp))
    have HQ : Hid (inside g q = true) := opn_inside (ho q (by simp))
    have HRR : Hid (inside g r = true) := opn_inside (ho r (by simp))
    have HV : Hid (meetP g p q r = (if meetBad g p q r = true then (0, 0) else (meetV g p q r).2) ∧ meetN g p q r = (if meetBad g p q r = true then 0 else (meetV g p q r).1) ∧ meetE g p q r = if meetBad g p q r = true then 6 else 0) := by
      show _ ∧ _ ∧ _
      unfold meetP meetN meetE
      exact ⟨if_neg (by simp [h0]), if_neg (by simp [h0]), if_neg (by simp [h0])⟩
    rw [h0]
    clear h0 hr ho
    obtain ⟨a1, a2, a3, p1, p2, p3, p4, p5, p6, c1, c2, f1, f2⟩ := F1.out
    have z2 := F1.out.lt
    have z1 : w.heap.size + 1 < W1.heap.size := by omega
    have z0 : w.heap.size < W1.heap.size := by omega
    have i0 : ∀ w, (Instr.index 27 (.agg #[.int .i64 p.1, .int .i64 p.2, .int .i64 q.1, .int .i64 q.2, .int .i64 r.1, .int .i64 r.2]) (.int .i64 0)).run Try.prog w = .ok (.agg #[.int .i64 p.1, .int .i64 p.2]) w := fun _ => by kernel_rfl
    have i1 : ∀ w, (Instr.index 27 (.agg #[.int .i64 p.1, .int .i64 p.2, .int .i64 q.1, .int .i64 q.2, .int .i64 r.1, .int .i64 r.2]) (.int .i64 1)).run Try.prog w = .ok (.agg #[.int .i64 q.1, .int .i64 q.2]) w := fun _ => by kernel_rfl
    have i2 : ∀ w, (Instr.index 27 (.agg #[.int .i64 p.1, .int .i64 p.2, .int .i64 q.1, .int .i64 q.2, .int .i64 r.1, .int .i64 r.2]) (.int .i64 2)).run Try.prog w = .ok (.agg #[.int .i64 r.1, .int .i64 r.2]) w := fun _ => by kernel_rfl
    go_wp2
    obtain ⟨fb, hfb⟩ : ∃ fb, fb = W1.heap.size := ⟨_, rfl⟩
    have E2 : Ext W1 (W1.alloc (.cells #[.pointer none, .pointer none, .pointer none] 87)) := (Ext.refl _).alloc _
    have FR0 : Hid (MtFar fb 0 (.pointer none) (.pointer none) (.pointer none) (W1.alloc (.cells #[.pointer none, .pointer none, .pointer none] 87))) := by
      rw [hfb]; clear hfb
      exact ⟨by go_simp, by go_simp, by go_simp, by go_simp, by go_simp, by go_simp⟩
    have FX0 := Lib.hid (F1.out.ext E2)
    have EV0 : Ext w (W1.alloc (.cells #[.pointer none, .pointer none, .pointer none] 87)) := E1.trans E2
    have zfb : w.heap.size + 1 + 1 < fb := by omega
    have B0 : Hid (Below fb W1 (W1.alloc (.cells #[.pointer none, .pointer none, .pointer none] 87))) := E2.mono (by omega)
    rw [← hfb]
    clear hfb a1 a2 a3 p1 p2 p3 p4 p5 p6 c1 c2 f1 f2 z0 z1 z2
    generalize (W1.alloc (.cells #[.pointer none, .pointer none, .pointer none] 87)) = V0 at FR0 FX0 EV0 E2 B0 ⊢
    refine wp_loop_rounds 4 ?_
    -- round 0
    rw [rounds_succ]
    obtain ⟨a1, a2, a3, p1, p2, p3, p4, p5, p6, c1, c2, f1, f2⟩ := FX0.out
    have z2 := FX0.out.lt
    have z1 : w.heap.size + 1 < V0.heap.size := by omega
    have z0 : w.heap.size < V0.heap.size := by omega
    go_wp2_with fail
    refine (distances_any g p ga gc _ HR.out HP.out (HC.out.ext (EV0.alloc _))).mono ?_
    rintro e w' ⟨t0, rfl, hT0, hE⟩
    have HT0 := Lib.hid hT0
    have G : Ext V0 w' := ((Ext.refl _).alloc _).trans hE
    have FX := Lib.hid (FX0.out.ext G)
    have FR := Lib.hid (FR0.out.ext G)
    have hB := Lib.hid (B0.out.trans (G.mono (show fb ≤ V0.heap.size from Nat.le_of_lt FR0.out.lt)))
    obtain ⟨y0, y1, y2, y3, y4, y5⟩ := FR.out
    have hx := Lib.hid (TabAt.ne y0 HT0.out)
    have EV := EV0.trans G
    clear hT0 hE a1 a2 a3 p1 p2 p3 p4 p5 p6 c1 c2 f1 f2 z0 z1 z2 FX0 FR0 EV0 G B0
    obtain ⟨a1, a2, a3, p1, p2, p3, p4, p5, p6, c1, c2, f1, f2⟩ := FX.out
    have z2 := FX.out.lt
    have z1 : w.heap.size + 1 < w'.heap.size := by omega
    have z0 : w.heap.size < w'.heap.size := by omega
    go_wp2_with fail
    have FX1 : Hid (MtFix g p q r ga gc w.heap.size (w'.setCell ⟨fb, 0, none⟩ (.pointer (some ⟨t0, 0, none⟩)))) := FX.out.below (Below.setCell (p := ⟨fb, 0, none⟩) (Below.refl fb _) (Nat.le_refl _) _) zfb
    have FR1 : Hid (MtFar fb 0 (.pointer (some ⟨t0, 0, none⟩)) (.pointer none) (.pointer none) (w'.setCell ⟨fb, 0, none⟩ (.pointer (some ⟨t0, 0, none⟩)))) := ⟨by go_simp, by go_simp, by go_simp, by go_simp, by go_simp, by go_simp⟩
    have HT0 := Lib.hid (HT0.out.store ⟨fb, 0, none⟩ (.pointer (some ⟨t0, 0, none⟩)) hx.out)
    have EV1 : Ext w (w'.setCell ⟨fb, 0, none⟩ (.pointer (some ⟨t0, 0, none⟩))) := Below.setCell (p := ⟨fb, 0, none⟩) EV (by show w.heap.size ≤ fb; omega) _
    have B1 : Hid (Below fb W1 (w'.setCell ⟨fb, 0, none⟩ (.pointer (some ⟨t0, 0, none⟩)))) := Below.setCell (p := ⟨fb, 0, none⟩) hB.out (Nat.le_refl _) _
    clear a1 a2 a3 p1 p2 p3 p4 p5 p6 c1 c2 f1 f2 z0 z1 z2 FX FR EV hB y0 y1 y2 y3 y4 y5 hx
    generalize (w'.setCell ⟨fb, 0, none⟩ (.pointer (some ⟨t0, 0, none⟩))) = V1 at FX1 FR1 EV1 B1 HT0 ⊢
    -- round 1
    rw [rounds_succ]
    obtain ⟨a1, a2, a3, p1, p2, p3, p4, p5, p6, c1, c2, f1, f2⟩ := FX1.out
    have z2 := FX1.out.lt
    have z1 : w.heap.size + 1 < V1.heap.size := by omega
    have z0 : w.heap.size < V1.heap.size := by omega
    go_wp2_with fail
    refine (distances_any g q ga gc _ HR.out HQ.out (HC.out.ext (EV1.alloc _))).mono ?_
    rintro e w' ⟨t1, rfl, hT1, hE⟩
    have HT1 := Lib.hid hT1
    have G : Ext V1 w' := ((Ext.refl _).alloc _).trans hE
    have FX := Lib.hid (FX1.out.ext G)
    have FR := Lib.hid (FR1.out.ext G)
    have hB := Lib.hid (B1.out.trans (G.mono (show fb ≤ V1.heap.size from Nat.le_of_lt FR1.out.lt)))
    obtain ⟨y0, y1, y2, y3, y4, y5⟩ := FR.out
    have hx := Lib.hid (TabAt.ne y0 HT1.out)
    have HT0 := Lib.hid (HT0.out.ext G)
    have hx0 := Lib.hid (TabAt.ne y0 HT0.out)
    have EV := EV1.trans G
    clear hT1 hE a1 a2 a3 p1 p2 p3 p4 p5 p6 c1 c2 f1 f2 z0 z1 z2 FX1 FR1 EV1 G B1
    obtain ⟨a1, a2, a3, p1, p2, p3, p4, p5, p6, c1, c2, f1, f2⟩ := FX.out
    have z2 := FX.out.lt
    have z1 : w.heap.size + 1 < w'.heap.size := by omega
    have z0 : w.heap.size < w'.heap.size := by omega
    go_wp2_with fail
    have FX2 : Hid (MtFix g p q r ga gc w.heap.size (w'.setCell ⟨fb, 1, none⟩ (.pointer (some ⟨t1, 0, none⟩)))) := FX.out.below (Below.setCell (p := ⟨fb, 1, none⟩) (Below.refl fb _) (Nat.le_refl _) _) zfb
    have FR2 : Hid (MtFar fb 0 (.pointer (some ⟨t0, 0, none⟩)) (.pointer (some ⟨t1, 0, none⟩)) (.pointer none) (w'.setCell ⟨fb, 1, none⟩ (.pointer (some ⟨t1, 0, none⟩)))) := ⟨by go_simp, by go_simp, by go_simp, by go_simp, by go_simp, by go_simp⟩
    have HT1 := Lib.hid (HT1.out.store ⟨fb, 1, none⟩ (.pointer (some ⟨t1, 0, none⟩)) hx.out)
    have HT0 := Lib.hid (HT0.out.store ⟨fb, 1, none⟩ (.pointer (some ⟨t1, 0, none⟩)) hx0.out)
    have EV2 : Ext w (w'.setCell ⟨fb, 1, none⟩ (.pointer (some ⟨t1, 0, none⟩))) := Below.setCell (p := ⟨fb, 1, none⟩) EV (by show w.heap.size ≤ fb; omega) _
    have B2 : Hid (Below fb W1 (w'.setCell ⟨fb, 1, none⟩ (.pointer (some ⟨t1, 0, none⟩)))) := Below.setCell (p := ⟨fb, 1, none⟩) hB.out (Nat.le_refl _) _
    clear a1 a2 a3 p1 p2 p3 p4 p5 p6 c1 c2 f1 f2 z0 z1 z2 FX FR EV hB y0 y1 y2 y3 y4 y5 hx
    generalize (w'.setCell ⟨fb, 1, none⟩ (.pointer (some ⟨t1, 0, none⟩))) = V2 at FX2 FR2 EV2 B2 HT0 HT1 ⊢
    -- round 2
    rw [rounds_succ]
    obtain ⟨a1, a2, a3, p1, p2, p3, p4, p5, p6, c1, c2, f1, f2⟩ := FX2.out
    have z2 := FX2.out.lt
    have z1 : w.heap.size + 1 < V2.heap.size := by omega
    have z0 : w.heap.size < V2.heap.size := by omega
    go_wp2_with fail
    refine (distances_any g r ga gc _ HR.out HRR.out (HC.out.ext (EV2.alloc _))).mono ?_
    rintro e w' ⟨t2, rfl, hT2, hE⟩
    have HT2 := Lib.hid hT2
    have G : Ext V2 w' := ((Ext.refl _).alloc _).trans hE
    have FX := Lib.hid (FX2.out.ext G)
    have FR := Lib.hid (FR2.out.ext G)
    have hB := Lib.hid (B2.out.trans (G.mono (show fb ≤ V2.heap.size from Nat.le_of_lt FR2.out.lt)))
    obtain ⟨y0, y1, y2, y3, y4, y5⟩ := FR.out
    have hx := Lib.hid (TabAt.ne y0 HT2.out)
    have HT0 := Lib.hid (HT0.out.ext G)
    have hx0 := Lib.hid (TabAt.ne y0 HT0.out)
    have HT1 := Lib.hid (HT1.out.ext G)
    have hx1 := Lib.hid (TabAt.ne y0 HT1.out)
    have EV := EV2.trans G
    clear hT2 hE a1 a2 a3 p1 p2 p3 p4 p5 p6 c1 c2 f1 f2 z0 z1 z2 FX2 FR2 EV2 G B2
    obtain ⟨a1, a2, a3, p1, p2, p3, p4, p5, p6, c1, c2, f1, f2⟩ := FX.out
    have z2 := FX.out.lt
    have z1 : w.heap.size + 1 < w'.heap.size := by omega
    have z0 : w.heap.size < w'.heap.size := by omega
    go_wp2_with fail
    have FX3 : Hid (MtFix g p q r ga gc w.heap.size (w'.setCell ⟨fb, 2, none⟩ (.pointer (some ⟨t2, 0, none⟩)))) := FX.out.below (Below.setCell (p := ⟨fb, 2, none⟩) (Below.refl fb _) (Nat.le_refl _) _) zfb
    have FR3 : Hid (MtFar fb 0 (.pointer (some ⟨t0, 0, none⟩)) (.pointer (some ⟨t1, 0, none⟩)) (.pointer (some ⟨t2, 0, none⟩)) (w'.setCell ⟨fb, 2, none⟩ (.pointer (some ⟨t2, 0, none⟩)))) := ⟨by go_simp, by go_simp, by go_simp, by go_simp, by go_simp, by go_simp⟩
    have HT2 := Lib.hid (HT2.out.store ⟨fb, 2, none⟩ (.pointer (some ⟨t2, 0, none⟩)) hx.out)
    have HT0 := Lib.hid (HT0.out.store ⟨fb, 2, none⟩ (.pointer (some ⟨t2, 0, none⟩)) hx0.out)
    have HT1 := Lib.hid (HT1.out.store ⟨fb, 2, none⟩ (.pointer (some ⟨t2, 0, none⟩)) hx1.out)
    have EV3 : Ext w (w'.setCell ⟨fb, 2, none⟩ (.pointer (some ⟨t2, 0, none⟩))) := Below.setCell (p := ⟨fb, 2, none⟩) EV (by show w.heap.size ≤ fb; omega) _
    have B3 : Hid (Below fb W1 (w'.setCell ⟨fb, 2, none⟩ (.pointer (some ⟨t2, 0, none⟩)))) := Below.setCell (p := ⟨fb, 2, none⟩) hB.out (Nat.le_refl _) _
    clear a1 a2 a3 p1 p2 p3 p4 p5 p6 c1 c2 f1 f2 z0 z1 z2 FX FR EV hB y0 y1 y2 y3 y4 y5 hx
    generalize (w'.setCell ⟨fb, 2, none⟩ (.pointer (some ⟨t2, 0, none⟩))) = V3 at FX3 FR3 EV3 B3 HT0 HT1 HT2 ⊢
    rw [rounds_succ]
    go_wp2_with fail
    obtain ⟨a1, a2, a3, p1, p2, p3, p4, p5, p6, c1, c2, f1, f2⟩ := FX3.out
    obtain ⟨y0, y1, y2, y3, y4, y5⟩ := FR3.out
    obtain ⟨rq1, rq2, rq3, rq4⟩ := inG_of HR.out HQ.out
    obtain ⟨rr1, rr2, rr3, rr4⟩ := inG_of HR.out HRR.out
    have cq := (HT0.out q ⟨rq1, rq2, rq3, rq4⟩).1
    have cr := (HT0.out r ⟨rr1, rr2, rr3, rr4⟩).1
    cases hx0 : decide (dst g p q < 0)
    · cases hx1 : decide (dst g p r < 0)
      · have HB : Hid (meetBad g p q r = false) := by show _ = _; unfold meetBad; rw [hx0, hx1]; rfl
        go_quiet (fail)
        have EN : Ext V3 (V3.drewN nq) := (Ext.refl _).drewN _
        have FX4 := Lib.hid (FX3.out.ext EN)
        have FR4 := Lib.hid (FR3.out.ext EN)
        have HT0 := Lib.hid (HT0.out.ext EN)
        have HT1 := Lib.hid (HT1.out.ext EN)
        have HT2 := Lib.hid (HT2.out.ext EN)
        have EV4 := EV3.trans EN
        clear a1 a2 a3 p1 p2 p3 p4 p5 p6 c1 c2 f1 f2 y0 y1 y2 y3 y4 y5 rq1 rq2 rq3 rq4 rr1 rr2 rr3 rr4 cq cr FX3 FR3 EV3 EN B3
        generalize V3.drewN nq = V4 at FX4 FR4 HT0 HT1 HT2 EV4 ⊢
        obtain ⟨a1, a2, a3, p1, p2, p3, p4, p5, p6, c1, c2, f1, f2⟩ := FX4.out
        have zx := FX4.out.lt
        have z0 : w.heap.size < V4.heap.size := by omega
        go_wp2_with fail
        have E5 : Ext V4 (V4.alloc (.cells #[.int .i64 0, .int .i64 0] 26)) := (Ext.refl _).alloc _
        obtain ⟨bat, hbat⟩ : ∃ b, b = V4.heap.size := ⟨_, rfl⟩
        have FX5 := Lib.hid (FX4.out.ext E5)
        have FR5 := Lib.hid (FR4.out.ext E5)
        have HT0' := Lib.hid (HT0.out.ext E5)
        have HT1' := Lib.hid (HT1.out.ext E5)
        have HT2' := Lib.hid (HT2.out.ext E5)
        have EV5 := EV4.trans E5
        have b1 : (V4.alloc (.cells #[.int .i64 0, .int .i64 0] 26)).cell? ⟨bat, 0, none⟩ = some (.int .i64 0) := by rw [hbat]; clear hbat; go_simp
        have b2 : (V4.alloc (.cells #[.int .i64 0, .int .i64 0] 26)).cell? ⟨bat, 1, none⟩ = some (.int .i64 0) := by rw [hbat]; clear hbat; go_simp
        have b3 : (V4.alloc (.cells #[.int .i64 0, .int .i64 0] 26)).frozen? ⟨bat, 0, none⟩ = false := by rw [hbat]; clear hbat; go_simp
        have b4 : (V4.alloc (.cells #[.int .i64 0, .int .i64 0] 26)).frozen? ⟨bat, 1, none⟩ = false := by rw [hbat]; clear hbat; go_simp
        have zw : w.heap.size + 1 + 1 < bat := by rw [hbat]; exact FX4.out.lt
        have zf : fb < bat := by rw [hbat]; exact FR4.out.lt
        have zt0 : t0 < bat := by rw [hbat]; exact HT0.out.lt
        have zt1 : t1 < bat := by rw [hbat]; exact HT1.out.lt
        have zt2 : t2 < bat := by rw [hbat]; exact HT2.out.lt
        rw [← hbat]
        clear hbat a1 a2 a3 p1 p2 p3 p4 p5 p6 c1 c2 f1 f2 zx z0 FX4 FR4 HT0 HT1 HT2 EV4 E5
        generalize V4.alloc (.cells #[.int .i64 0, .int .i64 0] 26) = V5 at FX5 FR5 HT0' HT1' HT2' EV5 b1 b2 b3 b4 ⊢
        obtain ⟨mk, hmk⟩ : ∃ mk, mk = meetK g (dst g p) (dst g q) (dst g r) := ⟨_, rfl⟩
        have HMK0 : Hid (mk 0 = (-1, (0, 0))) := by rw [hmk]; rfl
        have HMKS : Hid (∀ k, mk (k + 1) = meetStep (dst g p) (dst g q) (dst g r) (mk k) (cellAt g k)) := by rw [hmk]; intro k; rfl
        have HMKB : Hid (∀ k, -3 ≤ (mk k).1 ∧ (mk k).1 ≤ 12288) := by
          rw [hmk]
          exact meetK_bd (fun x => ⟨(dst_bd HR.out HP.out x).1, (dst_bd HR.out HP.out x).2, (dst_bd HR.out HQ.out x).1, (dst_bd HR.out HQ.out x).2, (dst_bd HR.out HRR.out x).1, (dst_bd HR.out HRR.out x).2⟩)
        have HMKE : Hid (meetV g p q r = mk (g.rows.toNat * g.cols.toNat)) := by rw [hmk]; rfl
        clear hmk
        have hr1 := HR.out.r1
        have hr2 := HR.out.r2
        have hc1 := HR.out.c1
        have hc2 := HR.out.c2
        have j0 : ∀ w, (Instr.index 87 (.agg #[.pointer (some ⟨t0, 0, none⟩), .pointer (some ⟨t1, 0, none⟩), .pointer (some ⟨t2, 0, none⟩)]) (.int .i64 0)).run Try.prog w = .ok (.pointer (some ⟨t0, 0, none⟩)) w := fun _ => by kernel_rfl
        have j1 : ∀ w, (Instr.index 87 (.agg #[.pointer (some ⟨t0, 0, none⟩), .pointer (some ⟨t1, 0, none⟩), .pointer (some ⟨t2, 0, none⟩)]) (.int .i64 1)).run Try.prog w = .ok (.pointer (some ⟨t1, 0, none⟩)) w := fun _ => by kernel_rfl
        have j2 : ∀ w, (Instr.index 87 (.agg #[.pointer (some ⟨t0, 0, none⟩), .pointer (some ⟨t1, 0, none⟩), .pointer (some ⟨t2, 0, none⟩)]) (.int .i64 2)).run Try.prog w = .ok (.pointer (some ⟨t2, 0, none⟩)) w := fun _ => by kernel_rfl
        go_loopw [11, 68] (fun b i wr => ∃ k : Nat, k ≤ g.rows.toNat ∧ i = .int .i64 k ∧ b = .int .i64 (mk (k * g.cols.toNat)).1 ∧ Hid (Below bat V5 wr) ∧ wr.cell? ⟨bat, 0, none⟩ = some (.int .i64 (mk (k * g.cols.toNat)).2.1) ∧ wr.cell? ⟨bat, 1, none⟩ = some (.int .i64 (mk (k * g.cols.toNat)).2.2) ∧ wr.frozen? ⟨bat, 0, none⟩ = false ∧ wr.frozen? ⟨bat, 1, none⟩ = false) (fun _ i _ => g.rows.toNat - (intOf i).toNat)
        case atStart =>
          refine ⟨0, Nat.zero_le _, rfl, ?_, Below.refl _ _, ?_, ?_, b3, b4⟩
          · rw [Nat.zero_mul, HMK0.out]
          · rw [Nat.zero_mul, HMK0.out]; exact b1
          · rw [Nat.zero_mul, HMK0.out]; exact b2
        case round =>
          clear b1 b2 b3 b4
          obtain ⟨k, hk, rfl, rfl, hB, b1, b2, b3, b4⟩ := hrel
          have hmb := HMKB.out (k * g.cols.toNat)
          have FX := Lib.hid (FX5.out.below hB.out zw)
          obtain ⟨a1, a2, a3, p1, p2, p3, p4, p5, p6, c1, c2, f1, f2⟩ := FX.out
          by_cases hlt : k < g.rows.toNat
          · have hlt' : (k : Int) < g.rows := by omega
            go_wp2_with fail
            clear a1 a2 a3 p1 p2 p3 p4 p5 p6 c1 c2 f1 f2
            go_loopw [11, 73] (fun b i wr => ∃ c : Nat, c ≤ g.cols.toNat ∧ i = .int .i64 c ∧ b = .int .i64 (mk (k * g.cols.toNat + c)).1 ∧ Hid (Below bat V5 wr) ∧ wr.cell? ⟨bat, 0, none⟩ = some (.int .i64 (mk (k * g.cols.toNat + c)).2.1) ∧ wr.cell? ⟨bat, 1, none⟩ = some (.int .i64 (mk (k * g.cols.toNat + c)).2.2) ∧ wr.frozen? ⟨bat, 0, none⟩ = false ∧ wr.frozen? ⟨bat, 1, none⟩ = false) (fun _ i _ => g.cols.toNat - (intOf i).toNat)
            case atStart =>
              exact ⟨0, Nat.zero_le _, rfl, rfl, hB, b1, b2, b3, b4⟩
            case round =>
              clear b1 b2 b3 b4 hB FX hmb
              obtain ⟨c, hc, rfl, rfl, hB, b1, b2, b3, b4⟩ := hrel
              have hmb := HMKB.out (k * g.cols.toNat + c)
              by_cases hlc : c < g.cols.toNat
              · have hlc' : (c : Int) < g.cols := by omega
                have FR := Lib.hid (FR5.out.below hB.out zf)
                obtain ⟨y0, y1, y2, y3, y4, y5⟩ := FR.out
                have ig : InG ((k : Int), (c : Int)) := ⟨by show (0 : Int) ≤ k; omega, by show (k : Int) < 64; omega, by show (0 : Int) ≤ c; omega, by show (c : Int) < 64; omega⟩
                have d0 := ((HT0'.out.below hB.out zt0) _ ig).1
                have d1 := ((HT1'.out.below hB.out zt1) _ ig).1
                have d2 := ((HT2'.out.below hB.out zt2) _ ig).1
                simp only [Int.toNat_natCast] at d0 d1 d2
                have hst := HMKS.out (k * g.cols.toNat + c)
                rw [cellAt_mk hlc] at hst
                unfold meetStep at hst
                obtain ⟨bd1, bd2⟩ := dst_bd HR.out HP.out ((k : Int), (c : Int))
                obtain ⟨bd3, bd4⟩ := dst_bd HR.out HQ.out ((k : Int), (c : Int))
                obtain ⟨bd5, bd6⟩ := dst_bd HR.out HRR.out ((k : Int), (c : Int))
                generalize dst g p ((k : Int), (c : Int)) = A at d0 hst bd1 bd2
                generalize dst g q ((k : Int), (c : Int)) = B at d1 hst bd3 bd4
                generalize dst g r ((k : Int), (c : Int)) = C at d2 hst bd5 bd6
                have k64 : (k : Int) < 64 := by omega
                have c64 : (c : Int) < 64 := by omega
                by_cases hA : A < 0
                · rw [if_pos hA] at hst
                  have HST := Lib.hid hst
                  clear hst
                  go_wp2
                  refine ⟨⟨c + 1, by omega, by go_num, ?_, hB, ?_, ?_, b3, b4⟩, by simp [intOf]; omega⟩
                  · rw [← Nat.add_assoc, HST.out]
                  · rw [← Nat.add_assoc, HST.out]; exact b1
                  · rw [← Nat.add_assoc, HST.out]; exact b2
                · rw [if_neg hA] at hst
                  have HST := Lib.hid hst
                  clear hst
                  have s1 : IntKind.i64.wrap A = A := IntWalk.i64_in _ (by omega)
                  have s2 : IntKind.i64.wrap (A + B) = A + B := IntWalk.i64_in _ (by omega)
                  have s3 : IntKind.i64.wrap (A + B + C) = A + B + C := IntWalk.i64_in _ (by omega)
                  have hnA : ¬ A < 0 := hA
                  cases h1 : decide ((mk (k * g.cols.toNat + c)).1 < 0)
                  · cases h2 : decide (A + B + C < (mk (k * g.cols.toNat + c)).1)
                    · have HST := Lib.hid (HST.out.trans (if_neg (by simp at h1 h2; omega)))
                      go_wp2
                      refine wp_loop_rounds 4 ?_
                      repeat any_goals (rw [rounds_succ]; go_wp2)
                      refine ⟨⟨c + 1, by omega, by go_num, ?_, hB, ?_, ?_, b3, b4⟩, by simp [intOf]; omega⟩
                      · rw [← Nat.add_assoc, HST.out]
                      · rw [← Nat.add_assoc, HST.out]; exact b1
                      · rw [← Nat.add_assoc, HST.out]; exact b2
                    · have HST := Lib.hid (HST.out.trans (if_pos (.inr (by simpa using h2))))
                      go_wp2
                      refine wp_loop_rounds 4 ?_
                      repeat any_goals (rw [rounds_succ]; go_wp2)
                      refine ⟨⟨c + 1, by omega, by go_num, ?_, Below.setCell (p := ⟨bat, 1, none⟩) (Below.setCell (p := ⟨bat, 0, none⟩) hB.out (Nat.le_refl _) _) (Nat.le_refl _) _, ?_, ?_, by go_simp, by go_simp⟩, by simp [intOf]; omega⟩
                      · rw [← Nat.add_assoc, HST.out]
                      · rw [← Nat.add_assoc, HST.out]; go_simp
                      · rw [← Nat.add_assoc, HST.out]; go_simp
                  · have HST := Lib.hid (HST.out.trans (if_pos (.inl (by simpa using h1))))
                    go_wp2
                    refine wp_loop_rounds 4 ?_
                    repeat any_goals (rw [rounds_succ]; go_wp2)
                    refine ⟨⟨c + 1, by omega, by go_num, ?_, Below.setCell (p := ⟨bat, 1, none⟩) (Below.setCell (p := ⟨bat, 0, none⟩) hB.out (Nat.le_refl _) _) (Nat.le_refl _) _, ?_, ?_, by go_simp, by go_simp⟩, by simp [intOf]; omega⟩
                    · rw [← Nat.add_assoc, HST.out]
                    · rw [← Nat.add_assoc, HST.out]; go_simp
                    · rw [← Nat.add_assoc, HST.out]; go_simp
              · have hlc' : ¬ (c : Int) < g.cols := by omega
                have HCE : Hid (k * g.cols.toNat + c = (k + 1) * g.cols.toNat) := by
                  show _ = _
                  rw [Nat.add_mul, Nat.one_mul, show c = g.cols.toNat by omega]
                go_wp2
                refine ⟨⟨k + 1, by omega, by go_num, ?_, hB, ?_, ?_, b3, b4⟩, by simp [intOf]; omega⟩
                · rw [← HCE.out]
                · rw [← HCE.out]; exact b1
                · rw [← HCE.out]; exact b2
          · have hlt' : ¬ (k : Int) < g.rows := by omega
            have hke : k = g.rows.toNat := by omega
            go_wp2
            try simp only [Exit.inBlock, Exit.then]
            refine bodyPost_ret (v := .tuple #[.agg #[.int .i64 (mk (g.rows.toNat * g.cols.toNat)).2.1, .int .i64 (mk (g.rows.toNat * g.cols.toNat)).2.2], .int .i64 (mk (g.rows.toNat * g.cols.toNat)).1, .int .i64 0]) (by rw [results_cell_tmp2 rfl]; go_simp) rfl ⟨?_, ?_⟩
            · rw [HV.out.1, HV.out.2.1, HV.out.2.2, HB.out, HMKE.out]
              rfl
            · exact Below.setCell (p := ⟨_, 1, none⟩) (Below.setCell (p := ⟨_, 0, none⟩) (Below.trans EV5 (hB.out.mono (by omega))) (by show w.heap.size ≤ w.heap.size + 1 + 1; omega) _) (by show w.heap.size ≤ w.heap.size + 1 + 1; omega) _
      · have HB : Hid (meetBad g p q r = true) := by show _ = _; unfold meetBad; rw [hx0, hx1]; rfl
        go_quiet (fail)
        go_wp2
        try simp only [Exit.inBlock, Exit.then]
        refine bodyPost_ret (v := .tuple #[.agg #[.int .i64 0, .int .i64 0], .int .i64 0, .int .i64 6]) (by rw [results_cell_tmp2 rfl]; go_simp) rfl ⟨?_, ?_⟩
        · rw [HV.out.1, HV.out.2.1, HV.out.2.2, if_pos HB.out, if_pos HB.out, if_pos HB.out]
        · exact Below.setCell (p := ⟨_, 1, none⟩) (Below.setCell (p := ⟨_, 0, none⟩) (EV3.drewN _) (by show w.heap.size ≤ w.heap.size + 1 + 1; omega) _) (by show w.heap.size ≤ w.heap.size + 1 + 1; omega) _
    · have HB : Hid (meetBad g p q r = true) := by show _ = _; unfold meetBad; rw [hx0]; rfl
      go_quiet (fail)
      go_wp2
      try simp only [Exit.inBlock, Exit.then]
      refine bodyPost_ret (v := .tuple #[.agg #[.int .i64 0, .int .i64 0], .int .i64 0, .int .i64 6]) (by rw [results_cell_tmp2 rfl]; go_simp) rfl ⟨?_, ?_⟩
      · rw [HV.out.1, HV.out.2.1, HV.out.2.2, if_pos HB.out, if_pos HB.out, if_pos HB.out]
      · exact Below.setCell (p := ⟨_, 1, none⟩) (Below.setCell (p := ⟨_, 0, none⟩) (EV3.drewN _) (by show w.heap.size ≤ w.heap.size + 1 + 1; omega) _) (by show w.heap.size ≤ w.heap.size + 1 + 1; omega) _
  · have hv : Hid (meetP g p q r = (0, 0) ∧ meetN g p q r = 0 ∧ meetE g p q r = givenErr g [p, q, r]) := by
      show _ ∧ _ ∧ _
      unfold meetP meetN meetE
      exact ⟨if_pos h0, if_pos h0, if_pos h0⟩
    have hb : (givenErr g [p, q, r] != 0) = true := by simp [h0]
    have hb2 : (givenErr g [p, q, r] == 0) = false := by simp [h0]
    clear h0
    obtain ⟨a1, a2, a3, p1, p2, p3, p4, p5, p6, c1, c2, f1, f2⟩ := F1.out
    go_wp2
    try simp only [Exit.inBlock, Exit.then]
    refine bodyPost_ret (v := .tuple #[.agg #[.int .i64 0, .int .i64 0], .int .i64 0, .int .i64 (givenErr g [p, q, r])]) (by rw [results_cell_tmp2 rfl]; go_simp) rfl ⟨?_, ?_⟩
    · rw [hv.out.1, hv.out.2.1, hv.out.2.2]
    · exact Below.setCell (p := ⟨_, 1, none⟩) (Below.setCell (p := ⟨_, 0, none⟩) E1 (by show w.heap.size ≤ w.heap.size + 1 + 1; omega) _) (by show w.heap.size ≤ w.heap.size + 1 + 1; omega) _
end Go.Proofs.Ytfigooilhnahfaa
/- The reference's lengths from a cell. -/
namespace Go.Proofs.Ytfigooilhnahfaa
open Go.RowKit

def kx (g : Gr) (q : Pt) : Nat := q.1.toNat * g.cols.toNat + q.2.toNat
theorem kx_lt {g : Gr} {q : Pt} (h : inside g q = true) : kx g q < g.rows.toNat * g.cols.toNat := by
  unfold inside at h
  simp only [Bool.and_eq_true, decide_eq_true_eq] at h
  have h1 : (q.1.toNat + 1) * g.cols.toNat ≤ g.rows.toNat * g.cols.toNat := Nat.mul_le_mul_right _ (by omega)
  rw [Nat.add_mul, Nat.one_mul] at h1
  unfold kx
  omega
theorem kx_cellAt {g : Gr} (k : Nat) : kx g (cellAt g k) = k := by
  unfold kx cellAt
  simp only [Int.toNat_natCast]
  rw [Nat.mul_comm]
  exact Nat.div_add_mod k _
theorem cellAt_kx {g : Gr} {q : Pt} (h : inside g q = true) : cellAt g (kx g q) = q := by
  unfold inside at h
  simp only [Bool.and_eq_true, decide_eq_true_eq] at h
  unfold kx
  rw [cellAt_mk (by omega)]
  exact Prod.ext (by show ((q.1.toNat : Nat) : Int) = q.1; omega) (by show ((q.2.toNat : Nat) : Int) = q.2; omega)
theorem kxF {g : Gr} (hr : Right g) {q : Pt} (h : inside g q = true) : ∃ a : Nat, IntKind.i64.wrap (q.1 * g.cols) = (a : Int) ∧ IntKind.i64.wrap ((a : Int) + q.2) = (kx g q : Int) ∧ kx g q < g.rows.toNat * g.cols.toNat := by
  have h0 := h
  unfold inside at h
  simp only [Bool.and_eq_true, decide_eq_true_eq] at h
  have c1 := hr.c1; have c2 := hr.c2; have r2 := hr.r2
  have e : q.1 * g.cols = ((q.1.toNat * g.cols.toNat : Nat) : Int) := by
    rw [Int.natCast_mul, Int.toNat_of_nonneg (by omega), Int.toNat_of_nonneg (by omega)]
  have b : q.1.toNat * g.cols.toNat ≤ 64 * 64 := Nat.mul_le_mul (by omega) (by omega)
  refine ⟨q.1.toNat * g.cols.toNat, ?_, ?_, kx_lt h0⟩
  · rw [e]; exact IntWalk.i64_in _ (by omega)
  · unfold kx
    generalize q.1.toNat * g.cols.toNat = a at b ⊢
    rw [IntWalk.i64_in _ (by omega)]
    omega
def tabL (g : Gr) (D : Pt → Int) : List Int := (List.range (g.rows.toNat * g.cols.toNat)).map fun k => D (cellAt g k)
theorem tabL_len (g : Gr) (D : Pt → Int) : (tabL g D).length = g.rows.toNat * g.cols.toNat := by simp [tabL]
theorem tabL_get {g : Gr} {D : Pt → Int} {k : Nat} (h : k < g.rows.toNat * g.cols.toNat) : (tabL g D).getD k 0 = D (cellAt g k) := by simp [tabL, List.getD, h]

/-- the numbers of the array ob -/
def OutN (w : World) (ob n : Nat) (L : Nat → Int) : Prop := ∀ k, k < n → w.cell? ⟨ob, k, none⟩ = some (.int .i64 (L k)) ∧ w.frozen? ⟨ob, k, none⟩ = false
theorem OutN.set {w : World} {ob n : Nat} {L : Nat → Int} (h : OutN w ob n L) {i : Nat} (hi : i < n) (x : Int) : OutN (w.setCell ⟨ob, i, none⟩ (.int .i64 x)) ob n (fun k => if k = i then x else L k) := fun k hk => by
  refine ⟨?_, by rw [World.frozen?_setCell]; exact (h k hk).2⟩
  by_cases e : k = i
  · subst e
    rw [World.cell?_setCell_same _ _ _ (h k hk).1]; simp
  · rw [World.cell?_setCell_other _ _ _ _ (fun h => by simp only [Addr.mk.injEq] at h; omega), (h k hk).1]; simp [e]
theorem OutN.congr {w : World} {ob n : Nat} {L M : Nat → Int} (h : OutN w ob n L) (e : ∀ k, k < n → L k = M k) : OutN w ob n M := fun k hk => by rw [← e k hk]; exact h k hk
theorem OutN.kept {X : Nat → Prop} {m ob n : Nat} {L : Nat → Int} {A B : World} (h : OutN A ob n L) (k : Kept X m A B) (hx : X ob) : OutN B ob n L := fun i hi =>
  ⟨k.cell (p := ⟨ob, i, none⟩) hx (h i hi).1, (k.frozen (p := ⟨ob, i, none⟩) hx (h i hi).1).trans (h i hi).2⟩
theorem OutN.ext {ob n : Nat} {L : Nat → Int} {A B : World} (h : OutN A ob n L) (x : Ext A B) : OutN B ob n L := h.kept (Kept.ext x (fun _ => True) 0) trivial

/-- the array says of each cell seen how far it is -/
def OutD (g : Gr) (p : Pt) (w : World) (ob : Nat) (sn : List Pt) : Prop := OutN w ob (g.rows.toNat * g.cols.toNat) (fun k => if cellAt g k ∈ sn then dst g p (cellAt g k) else -1)

structure FrL (g : Gr) (p : Pt) (W : World) (ob : Nat) (i : Nat) (Wv sn : List Pt) (v : Value) (w : World) : Prop where
  q : QInv g p i Wv sn
  o : OutD g p w ob sn
  own : Owns w v Wv
  vb : ∀ b, v.ownBlock = some b → W.heap.size ≤ b
  be : Below ob W w

structure FiL (g : Gr) (p c : Pt) (w1 : World) (ob bb : Nat) (Wv sn : List Pt) (nv : Value) (j : Nat) (sj Nv : List Pt) (v : Value) (w : World) : Prop where
  e : addN sn [] ((near g c).take j) = (sj, Nv)
  o : OutD g p w ob sj
  own : Owns w v (Wv ++ Nv)
  vb : ∀ b, v.ownBlock = some b → w1.heap.size ≤ b ∧ nv.ownBlock ≠ some b ∧ b ≠ bb
  be : Below ob w1 w
  nn : Owns w nv (near g c)
  b1 : w.cell? ⟨bb, 0, none⟩ = some (.int .i64 c.1)
  b2 : w.cell? ⟨bb, 1, none⟩ = some (.int .i64 c.2)
theorem FiL.ext {g : Gr} {p c : Pt} {w1 : World} {ob bb : Nat} {Wv sn : List Pt} {nv : Value} {j : Nat} {sj Nv : List Pt} {v : Value} {A B : World} (h : FiL g p c w1 ob bb Wv sn nv j sj Nv v A) (x : Ext A B) (hob : ob < A.heap.size) : FiL g p c w1 ob bb Wv sn nv j sj Nv v B :=
  ⟨h.e, h.o.ext x, h.own.ext x, h.vb, h.be.trans (x.mono (Nat.le_of_lt hob)), h.nn.ext x, x.cell h.b1, x.cell h.b2⟩
theorem two_cells {w : World} {b : Nat} {x y : Value} (h0 : w.cell? ⟨b, 0, none⟩ = some x) (h1 : w.cell? ⟨b, 1, none⟩ = some y) : ∀ j u, ([x, y] : List Value)[j]? = some u → w.cell? ((⟨b, 0, none⟩ : Addr).add j) = some u := by
  intro j u h
  match j, h with
  | 0, h => simp at h; subst h; rw [Addr.add_lit]; exact h0
  | 1, h => simp at h; subst h; rw [Addr.add_lit]; exact h1
theorem take_near {g : Gr} {c : Pt} {j : Nat} (h : j < (near g c).length) : (near g c).take (j + 1) = (near g c).take j ++ [pt (near g c) j] := by
  rw [List.take_succ_eq_append_getElem h]
  congr 2
  unfold pt
  rw [List.getD_eq_getElem?_getD, List.getElem?_eq_getElem h]; simp
theorem addN_len (qs : List Pt) : ∀ (s n : List Pt), (addN s n qs).2.length ≤ n.length + qs.length := by
  induction qs with
  | nil => intro s n; simp [addN]
  | cons q qs ih =>
    intro s n
    unfold addN
    split
    · have := ih s n; simp; omega
    · have := ih (q :: s) (n ++ [q]); simp at this ⊢; omega
theorem near_len (g : Gr) (c : Pt) : (near g c).length ≤ 4 := Nat.le_trans (List.length_filter_le _ _) (by simp [nbs])

set_option maxHeartbeats 4000000 in
set_option maxRecDepth 100000 in
theorem Far_any (g : Gr) (p : Pt) (ga : Option Addr) (gc : Nat) (w : World) (hr : Right g) (hp : inside g p = true) (hc : Cells2 w ga g.bl) :
    Calls Try.prog 51 #[.agg #[.int .i64 g.rows, .int .i64 g.cols, .slice ga g.bl.length gc], .agg #[.int .i64 p.1, .int .i64 p.2]] w fun e w' => ∃ a cap, e = .returned (.slice a (tabL g (dst g p)).length cap) ∧ CellsI w' a (tabL g (dst g p)) ∧ Ext w w' := by
  have HC : Hid (Cells2 w ga g.bl) := hc
  have HR := Lib.hid hr
  have HP := Lib.hid hp
  have hgl : g.bl.length ≤ maxLen := by have := hr.few; unfold maxLen; omega
  have HG := Lib.hid hgl
  obtain ⟨n, hn⟩ : ∃ n, n = g.rows.toNat * g.cols.toNat := ⟨_, rfl⟩
  have hn1 : n ≤ 4096 := by rw [hn]; exact Nat.mul_le_mul (show g.rows.toNat ≤ 64 by have := hr.r2; omega) (show g.cols.toNat ≤ 64 by have := hr.c2; omega)
  have hmul : IntKind.i64.wrap (g.rows * g.cols) = (n : Int) := by
    have h1 := hr.r1; have h2 := hr.c1
    have e : g.rows * g.cols = (n : Int) := by
      rw [hn, Int.natCast_mul, Int.toNat_of_nonneg (by omega), Int.toNat_of_nonneg (by omega)]
    rw [e]; exact IntWalk.i64_in _ (by omega)
  have HNN := Lib.hid hn
  obtain ⟨i0, hi, hi0, hi1, hi2⟩ := info_parts infoInt
  clear hc hr hp hgl hn
  go_enter Try.func51, Try.ntmps51
  go_wp2_with (at_make; refine wpList_make_full _ rfl _ _ 50 rfl 0 3 i0 (.int .i64 0) 1 Try.underlying50 hi hi0 hi1 _ _ _ _ n rfl rfl rfl rfl ?b2 ?b3 ?b4 ?hK)
  case b2 => rw [hi2]; omega
  case b3 => unfold maxLen; omega
  case b4 => exact Nat.zero_le _
  case hK =>
    intro w1 hown hgr
    obtain ⟨ob, hob⟩ : ∃ ob, ob = w.heap.size + 1 + 1 := ⟨_, rfl⟩
    have hz1 : ob < w1.heap.size := by rw [hob]; exact (World.ownsRow.lt hown _ rfl).2
    have E1 : Ext ((( ((w).alloc (.cells #[.int .i64 g.rows, .int .i64 g.cols, .slice ga g.bl.length gc] 24))).alloc (.cells #[.int .i64 p.1, .int .i64 p.2] 26))) w1 := ⟨hgr.os, hgr.tape, hgr.output, hgr.size, fun k hk => hgr.block k hk (by simp)⟩
    have g1 := E1.cell (show ((( ((w).alloc (.cells #[.int .i64 g.rows, .int .i64 g.cols, .slice ga g.bl.length gc] 24))).alloc (.cells #[.int .i64 p.1, .int .i64 p.2] 26))).cell? ⟨w.heap.size, 0, none⟩ = some (.int .i64 g.rows) by clear hob hmul; go_simp)
    have g2 := E1.cell (show ((( ((w).alloc (.cells #[.int .i64 g.rows, .int .i64 g.cols, .slice ga g.bl.length gc] 24))).alloc (.cells #[.int .i64 p.1, .int .i64 p.2] 26))).cell? ⟨w.heap.size, 1, none⟩ = some (.int .i64 g.cols) by clear hob hmul; go_simp)
    have g3 := E1.cell (show ((( ((w).alloc (.cells #[.int .i64 g.rows, .int .i64 g.cols, .slice ga g.bl.length gc] 24))).alloc (.cells #[.int .i64 p.1, .int .i64 p.2] 26))).cell? ⟨w.heap.size, 2, none⟩ = some (.slice ga g.bl.length gc) by clear hob hmul; go_simp)
    have q1 := E1.cell (show ((( ((w).alloc (.cells #[.int .i64 g.rows, .int .i64 g.cols, .slice ga g.bl.length gc] 24))).alloc (.cells #[.int .i64 p.1, .int .i64 p.2] 26))).cell? ⟨w.heap.size + 1, 0, none⟩ = some (.int .i64 p.1) by clear hob hmul; go_simp)
    have q2 := E1.cell (show ((( ((w).alloc (.cells #[.int .i64 g.rows, .int .i64 g.cols, .slice ga g.bl.length gc] 24))).alloc (.cells #[.int .i64 p.1, .int .i64 p.2] 26))).cell? ⟨w.heap.size + 1, 1, none⟩ = some (.int .i64 p.2) by clear hob hmul; go_simp)
    have zw : w.heap.size + 1 < ob := by omega
    have EW : Ext w w1 := (((Ext.refl _).alloc _).alloc _).trans E1
    have HO0 : Hid (OutN w1 ob n (fun j => if j < 0 then -1 else 0)) := fun j hj => by
      rw [hob]
      refine ⟨?_, hown.frozenAt j⟩
      rw [hown.cellAt j (by omega)]
      simp [madeCells, hj, Nat.mod_one]
    have HCW := Lib.hid (HC.out.ext EW)
    have HBL : Hid (g.bl ≠ [] → ∀ b off, ga = some ⟨b, off, none⟩ → b < ob) := fun hne b off hb => by
      have := HC.out.lt hne hb
      omega
    rw [← hob]
    clear hob hown hgr E1 HC hmul hi hi0 hi1 hi2
    go_wp2
    go_loopw [6] (fun i wr => ∃ k : Nat, k ≤ n ∧ i = .int .i64 k ∧ Hid (OutN wr ob n (fun j => if j < k then -1 else 0)) ∧ Hid (Below ob w1 wr)) (fun i _ => n - (intOf i).toNat)
    case atStart => exact ⟨0, Nat.zero_le _, rfl, HO0.out, Below.refl _ _⟩
    case round =>
      obtain ⟨k, hk, rfl, hO, hB⟩ := hrel
      have zwr : w1.heap.size ≤ wr.heap.size := hB.out.size
      by_cases hlt : k < n
      · have hlt' : (k : Int) < (n : Int) := by omega
        have c1 : wr.cell? ⟨ob, k, none⟩ = some (.int .i64 (if k < k then -1 else 0)) := (hO.out k hlt).1
        have c2 := (hO.out k hlt).2
        rw [if_neg (Nat.lt_irrefl k)] at c1
        go_wp2
        refine ⟨⟨k + 1, by omega, by go_num, (hO.out.set hlt (-1)).congr fun j hj => ?_, hB.out.setCell (p := ⟨ob, k, none⟩) (Nat.le_refl _) _⟩, by simp [intOf]; omega⟩
        try dsimp only
        by_cases e : j = k
        · rw [if_pos e, if_pos (by omega)]
        · rw [if_neg e]
          by_cases e2 : j < k
          · rw [if_pos e2, if_pos (by omega)]
          · rw [if_neg e2, if_neg (by omega)]
      · have hkn : k = n := by omega
        have HKN := Lib.hid hkn
        have hlt' : ¬ (k : Int) < (n : Int) := by omega
        have g1 : wr.cell? ⟨w.heap.size, 0, none⟩ = some (.int .i64 g.rows) := (hB.out.cell (p := ⟨w.heap.size, 0, none⟩) (by show w.heap.size < ob; omega)).trans g1
        have g2 : wr.cell? ⟨w.heap.size, 1, none⟩ = some (.int .i64 g.cols) := (hB.out.cell (p := ⟨w.heap.size, 1, none⟩) (by show w.heap.size < ob; omega)).trans g2
        have g3 : wr.cell? ⟨w.heap.size, 2, none⟩ = some (.slice ga g.bl.length gc) := (hB.out.cell (p := ⟨w.heap.size, 2, none⟩) (by show w.heap.size < ob; omega)).trans g3
        have q1 : wr.cell? ⟨w.heap.size + 1, 0, none⟩ = some (.int .i64 p.1) := (hB.out.cell (p := ⟨w.heap.size + 1, 0, none⟩) zw).trans q1
        have q2 : wr.cell? ⟨w.heap.size + 1, 1, none⟩ = some (.int .i64 p.2) := (hB.out.cell (p := ⟨w.heap.size + 1, 1, none⟩) zw).trans q2
        obtain ⟨a, ka1, ka2, ka3⟩ := kxF HR.out HP.out
        have hkp : Hid (kx g p < n) := by rw [HNN.out]; exact ka3
        obtain ⟨kp, hkpe⟩ : ∃ kp, kp = kx g p := ⟨_, rfl⟩
        rw [← hkpe] at ka2 hkp
        have kp1 : (kp : Int) < (n : Int) := by have := hkp.out; omega
        have HKP := Lib.hid hkpe
        have c1 : wr.cell? ⟨ob, kp, none⟩ = some (.int .i64 (if kp < k then -1 else 0)) := (hO.out kp hkp.out).1
        have c2 := (hO.out kp hkp.out).2
        rw [if_pos (by have := hkp.out; have := HKN.out; omega)] at c1
        have EWr : Hid (Below w.heap.size w wr) := Below.trans EW (hB.out.mono (by omega))
        have zobr : ob < wr.heap.size := by omega
        have zn1 : w.heap.size < wr.heap.size := by omega
        have zn2 : w.heap.size + 1 < wr.heap.size := by omega
        clear hkn ka3 hkpe hlt
        have HNK : Hid (∀ j, j < n → (if j < k then (-1 : Int) else 0) = -1) := fun j hj => if_pos (by have := HKN.out; omega)
        go_wp2
        have EA : Ext (wr.setCell ⟨ob, kp, none⟩ (.int .i64 0)) ((wr.setCell ⟨ob, kp, none⟩ (.int .i64 0)).alloc (.cells #[.int .i64 p.1, .int .i64 p.2] 26)) := (Ext.refl _).alloc _
        have hss : (wr.setCell ⟨ob, kp, none⟩ (.int .i64 0)).heap.size = wr.heap.size := by simp
        have F0 : Hid (FrL g p w1 ob 0 [p] [p] (.slice (some ⟨wr.heap.size, 0, none⟩) 1 1) ((wr.setCell ⟨ob, kp, none⟩ (.int .i64 0)).alloc (.cells #[.int .i64 p.1, .int .i64 p.2] 26))) := {
          q := QInv.start HP.out
          o := by
            unfold OutD
            rw [← HNN.out]
            refine ((hO.out.set hkp.out 0).congr fun j hj => ?_).ext EA
            by_cases e : j = kp
            · rw [if_pos e, if_pos (by rw [e, HKP.out, cellAt_kx HP.out]; simp), e, HKP.out, cellAt_kx HP.out, dst_of HR.out HP.out (IsD.self g p)]
              rfl
            · rw [if_neg e, HNK.out j hj, if_neg (fun hm => e (by
                rw [List.mem_singleton] at hm
                rw [HKP.out, ← hm, kx_cellAt]))]
          own := by
            have := owns_new (wr.setCell ⟨ob, kp, none⟩ (.int .i64 0)) p
            rw [hss] at this
            exact this
          vb := fun b hb => by cases hb; exact zwr
          be := ((hB.out.setCell (p := ⟨ob, kp, none⟩) (Nat.le_refl _) _)).trans (EA.mono (by rw [hss]; omega)) }
        clear EA hss c1 c2 hO
        generalize ((wr.setCell ⟨ob, kp, none⟩ (.int .i64 0)).alloc (.cells #[.int .i64 p.1, .int .i64 p.2] 26)) = W2 at F0 ⊢
        clear g1 g2 g3 q1 q2 ka1 ka2 zn1 zn2
        go_loopw [7, 8] (fun v i wr => ∃ (k : Nat) (Wv sn : List Pt) (av : Option Addr) (cv : Nat), k ≤ Wv.length ∧ i = .int .i64 k ∧ v = .slice av Wv.length cv ∧ Hid (FrL g p w1 ob k Wv sn (.slice av Wv.length cv) wr)) (fun _ i _ => 4097 - (intOf i).toNat)
        case atStart => exact ⟨0, [p], [p], _, 1, by simp, rfl, rfl, F0.out⟩
        case round =>
          obtain ⟨k, Wv, sn, av, cv, hk, rfl, rfl, hF⟩ := hrel
          obtain ⟨wi1, wi2, wi3, wi4⟩ := hF.out.q.wi
          have hlW : Wv.length ≤ 4096 := by rw [wi3]; exact nodup_pts wi1 (fun q hq => inG_of HR.out (wi2 q hq))
          have zwr2 : w1.heap.size ≤ wr.heap.size := hF.out.be.size
          have WIS := Lib.hid wi2
          have WIW := Lib.hid wi4
          clear wi1 wi2 wi3 wi4
          by_cases hlt : k < Wv.length
          · have hlt' : (k : Int) < (Wv.length : Int) := by omega
            obtain ⟨a', c', hv', hcl, hab⟩ := hF.out.own.reads
            cases hv'
            obtain ⟨vb0, vo0, rfl, d1, d2⟩ := hcl k hlt
            have HQ := Lib.hid hF.out.q
            generalize hcc : pt Wv k = c at d1 d2
            have HCC := Lib.hid hcc
            have hcs : Hid (c ∈ sn) := by rw [← hcc]; exact WIW.out _ (pt_mem hlt)
            have hci : Hid (inside g c = true) := WIS.out _ hcs.out
            have g1 : wr.cell? ⟨w.heap.size, 0, none⟩ = some (.int .i64 g.rows) := (hF.out.be.cell (p := ⟨w.heap.size, 0, none⟩) (by show w.heap.size < ob; omega)).trans g1
            have g2 : wr.cell? ⟨w.heap.size, 1, none⟩ = some (.int .i64 g.cols) := (hF.out.be.cell (p := ⟨w.heap.size, 1, none⟩) (by show w.heap.size < ob; omega)).trans g2
            have g3 : wr.cell? ⟨w.heap.size, 2, none⟩ = some (.slice ga g.bl.length gc) := (hF.out.be.cell (p := ⟨w.heap.size, 2, none⟩) (by show w.heap.size < ob; omega)).trans g3
            have HCr : Hid (Cells2 wr ga g.bl) := HCW.out.kept (Kd := fun k => k < ob) (n := 0) ⟨hF.out.be.size, fun k o hk ho _ => by rw [hF.out.be.block k hk]; exact ho⟩ (fun b off hb hne => HBL.out hne b off hb)
            have zvb := cell_lt d1
            dsimp only at zvb
            have zob2 : ob < wr.heap.size := by omega
            have zn3 : w.heap.size < wr.heap.size := by omega
            clear hcl hab hcc
            go_wp2_with fail
            refine (Near_any g c ga gc _ HG.out (inG_of HR.out hci.out) (HCr.out.ext ((Ext.refl _).alloc _))).mono ?_
            rintro e w4 ⟨nv, rfl, hnO, hnb, hE⟩
            have EE : Ext wr w4 := ((Ext.refl _).alloc _).trans hE
            obtain ⟨na, nc, rfl, _, _⟩ := hnO.reads
            have y1 : w4.cell? ⟨wr.heap.size, 0, none⟩ = some (.int .i64 c.1) := hE.cell (by go_simp)
            have y2 : w4.cell? ⟨wr.heap.size, 1, none⟩ = some (.int .i64 c.2) := hE.cell (by go_simp)
            have F1 : Hid (FiL g p c w1 ob wr.heap.size Wv sn (.slice na (near g c).length nc) 0 sn [] (.slice (some ⟨vb0, vo0, none⟩) Wv.length cv) w4) := {
              e := rfl
              o := hF.out.o.ext EE
              own := by rw [List.append_nil]; exact hF.out.own.ext EE
              vb := fun b hb => by
                have h1 := hF.out.vb b hb
                have h2 := hF.out.own.lt hb
                refine ⟨h1, fun h3 => ?_, by omega⟩
                have h4 := hnb b h3
                simp at h4
                omega
              be := hF.out.be.trans (EE.mono (by omega))
              nn := hnO
              b1 := y1
              b2 := y2 }
            have zE : wr.heap.size < w4.heap.size := cell_lt y1
            have HNB : Hid (∀ b, (Value.slice na (near g c).length nc).ownBlock = some b → ob < b) := fun b hb => by
              have h4 := hnb b hb
              simp at h4
              omega
            obtain ⟨bb, hbb⟩ : ∃ bb, bb = wr.heap.size := ⟨_, rfl⟩
            have hlN := near_len g c
            rw [← hbb] at F1 zE ⊢
            have zob4 : ob < bb := by omega
            clear hnO hnb hE EE y1 y2 d1 d2 g1 g2 g3 HCr hbb zvb
            go_wp2
            go_loopw [7, 53] (fun v i wr => ∃ (j : Nat) (sj Nv : List Pt) (av : Option Addr) (cv m : Nat), j ≤ (near g c).length ∧ i = .int .i64 j ∧ v = .slice av m cv ∧ Hid (m = (Wv ++ Nv).length) ∧ Hid (FiL g p c w1 ob bb Wv sn (.slice na (near g c).length nc) j sj Nv (.slice av m cv) wr)) (fun _ i _ => (near g c).length - (intOf i).toNat)
            case atStart => exact ⟨0, sn, [], _, cv, Wv.length, Nat.zero_le _, rfl, rfl, by show _ = _; rw [List.append_nil], F1.out⟩
            case round =>
              clear F1
              obtain ⟨j, sj, Nv, av, cv, m, hj, rfl, rfl, hm, hG⟩ := hrel
              by_cases hjl : j < (near g c).length
              · have hjl' : (j : Int) < ((near g c).length : Int) := by omega
                obtain ⟨a', c', hv', hcl, _⟩ := hG.out.nn.reads
                cases hv'
                obtain ⟨nb, no, hna, d1, d2⟩ := hcl j hjl
                subst hna
                have htk := take_near hjl
                have hqn : Hid (pt (near g c) j ∈ near g c) := pt_mem hjl
                generalize pt (near g c) j = q at d1 d2 htk hqn
                have HTK := Lib.hid htk
                have hqi : Hid (inside g q = true) := near_inside hqn.out
                have hsj : Hid (∀ x, x ∈ sj ↔ x ∈ sn ∨ x ∈ (near g c).take j) := fun x => by
                  have := (addN_mem ((near g c).take j) sn [] x).1
                  rwa [hG.out.e] at this
                have hval := HQ.out.val HR.out HP.out hlt
                rw [HCC.out] at hval
                have HVAL := Lib.hid hval
                have hpos : Hid (∀ x ∈ sj, 0 ≤ dst g p x) := fun x hx => by
                  by_cases hxs : x ∈ sn
                  · exact HQ.out.pos HR.out HP.out hxs
                  · rcases (hsj.out x).1 hx with h1 | h1
                    · exact absurd h1 hxs
                    · have := HVAL.out.2 x (List.mem_of_mem_take h1) hxs
                      have := HVAL.out.1
                      omega
                have hsnoc := addN_snoc sn [] ((near g c).take j) q
                rw [hG.out.e, ← htk] at hsnoc
                have g1 : wr.cell? ⟨w.heap.size, 0, none⟩ = some (.int .i64 g.rows) := (hG.out.be.cell (p := ⟨w.heap.size, 0, none⟩) (by show w.heap.size < ob; omega)).trans g1
                have g2 : wr.cell? ⟨w.heap.size, 1, none⟩ = some (.int .i64 g.cols) := (hG.out.be.cell (p := ⟨w.heap.size, 1, none⟩) (by show w.heap.size < ob; omega)).trans g2
                have b1 := hG.out.b1
                have b2 := hG.out.b2
                have zb := cell_lt d1
                have zbb := cell_lt b1
                dsimp only at zb zbb
                have zobr2 : ob < wr.heap.size := by omega
                have znr : w.heap.size < wr.heap.size := by omega
                obtain ⟨aq, kq1, kq2, kq3⟩ := kxF HR.out hqi.out
                obtain ⟨kq, hkq⟩ : ∃ kq, kq = kx g q := ⟨_, rfl⟩
                rw [← HNN.out, ← hkq] at kq3
                rw [← hkq] at kq2
                have HKQ := Lib.hid hkq
                have kq4 : (kq : Int) < (n : Int) := by omega
                have o1 : wr.cell? ⟨ob, kq, none⟩ = some (.int .i64 (if q ∈ sj then dst g p q else -1)) := by
                  have := (hG.out.o kq (by rw [← HNN.out]; exact kq3)).1
                  dsimp only at this
                  rw [HKQ.out, cellAt_kx hqi.out] at this
                  rw [HKQ.out]; exact this
                have o2 : wr.frozen? ⟨ob, kq, none⟩ = false := (hG.out.o kq (by rw [← HNN.out]; exact kq3)).2
                clear hcl htk hval hkq
                by_cases hqs : q ∈ sj
                · rw [if_pos hqs] at hsnoc o1
                  have hnn : ¬ dst g p q < 0 := by have := hpos.out q hqs; omega
                  have HSN := Lib.hid hsnoc
                  clear hsnoc hqs
                  go_wp2
                  have X := hG.out.ext ((Ext.refl _).alloc (.cells #[.int .i64 q.1, .int .i64 q.2] 26)) zobr2
                  exact ⟨⟨j + 1, sj, Nv, av, cv, m, by omega, by go_num, rfl, hm.out, { X with e := HSN.out }⟩, by simp [intOf]; omega⟩
                · rw [if_neg hqs] at hsnoc o1
                  have hqsn : q ∉ sn := fun h => hqs ((hsj.out q).2 (.inl h))
                  have hdq : Hid (dst g p q = dst g p c + 1) := HVAL.out.2 q hqn.out hqsn
                  have HSN := Lib.hid hsnoc
                  have HQS := Lib.hid hqs
                  clear hsnoc hqs hqsn
                  obtain ⟨ac, kc1, kc2, kc3⟩ := kxF HR.out hci.out
                  obtain ⟨kc, hkc⟩ : ∃ kc, kc = kx g c := ⟨_, rfl⟩
                  rw [← HNN.out, ← hkc] at kc3
                  rw [← hkc] at kc2
                  have HKC := Lib.hid hkc
                  have kc4 : (kc : Int) < (n : Int) := by omega
                  have o3 : wr.cell? ⟨ob, kc, none⟩ = some (.int .i64 (dst g p c)) := by
                    have := (hG.out.o kc (by rw [← HNN.out]; exact kc3)).1
                    dsimp only at this
                    rw [HKC.out, cellAt_kx hci.out, if_pos ((hsj.out c).2 (.inl hcs.out))] at this
                    rw [HKC.out]; exact this
                  obtain ⟨db1, db2⟩ := dst_bd HR.out HP.out c
                  have q9 : IntKind.i64.wrap (dst g p c + 1) = dst g p c + 1 := IntWalk.i64_in _ (by omega)
                  clear hkc
                  go_wp2_with fail
                  have E5 : Ext wr (wr.alloc (.cells #[.int .i64 q.1, .int .i64 q.2] 26)) := (Ext.refl _).alloc _
                  have X := Lib.hid (hG.out.ext E5 zobr2)
                  have g1 := E5.cell g1
                  have g2 := E5.cell g2
                  have b1 := E5.cell b1
                  have b2 := E5.cell b2
                  have o1 := E5.cell o1
                  have o3 := E5.cell o3
                  have o2 : (wr.alloc (.cells #[.int .i64 q.1, .int .i64 q.2] 26)).frozen? ⟨ob, kq, none⟩ = false := (E5.frozen (p := ⟨ob, kq, none⟩) zobr2).trans o2
                  have y1 : (wr.alloc (.cells #[.int .i64 q.1, .int .i64 q.2] 26)).cell? ⟨wr.heap.size, 0, none⟩ = some (.int .i64 q.1) := by go_simp
                  have y2 : (wr.alloc (.cells #[.int .i64 q.1, .int .i64 q.2] 26)).cell? ⟨wr.heap.size, 1, none⟩ = some (.int .i64 q.2) := by go_simp
                  obtain ⟨qb, hqb⟩ : ∃ qb, qb = wr.heap.size := ⟨_, rfl⟩
                  have zq : qb < (wr.alloc (.cells #[.int .i64 q.1, .int .i64 q.2] 26)).heap.size := by rw [hqb]; simp
                  have zqo : ob < qb := by omega
                  rw [← hqb] at y1 y2 ⊢
                  have hG2 := Lib.hid hG.out.e
                  clear hqb E5 d1 d2 hG zobr2 znr zb zbb
                  generalize (wr.alloc (.cells #[.int .i64 q.1, .int .i64 q.2] 26)) = W6 at X g1 g2 b1 b2 o1 o2 o3 y1 y2 zq ⊢
                  go_still_tail 22, (by kernel_rfl)
                  obtain ⟨i0, hi, hi0, hi1, hi2⟩ := info_parts infoPl
                  have CS : Hid (Chg (fun k => k = ob) W6 (W6.setCell ⟨ob, kq, none⟩ (.int .i64 (dst g p c + 1)))) := Chg.setCell (B := fun k => k = ob) ⟨ob, _, none⟩ _ rfl
                  have KS : Hid (Kept (fun k => k ≠ ob) 0 W6 (W6.setCell ⟨ob, kq, none⟩ (.int .i64 (dst g p c + 1)))) := CS.out.kept (fun k hk _ => hk)
                  have nown : Hid (∀ b, (Value.slice av m cv).ownBlock = some b → b ≠ ob) := fun b hb e => by have := (X.out.vb b hb).1; omega
                  have nnear : Hid (∀ b, (Value.slice (some ⟨nb, no, none⟩) (near g c).length nc).ownBlock = some b → b ≠ ob) := fun b hb e => by have := HNB.out b hb; omega
                  have OW : Hid (Owns (W6.setCell ⟨ob, kq, none⟩ (.int .i64 (dst g p c + 1))) (.slice av m cv) (Wv ++ Nv)) := X.out.own.kept KS.out nown.out
                  have hwl : (Wv ++ Nv).length ≤ 4100 := by
                    have h2 : Nv.length ≤ 4 := by
                      have h3 := addN_len ((near g c).take j) sn []
                      rw [hG2.out] at h3
                      simp at h3
                      omega
                    simp; omega
                  have hmm : m ≤ 4100 := by rw [hm.out]; exact hwl
                  go_wp2_with (at_builtin; refine wpList_append1 _ rfl _ _ 22 rfl 26 i0 (.agg #[.int .i64 0, .int .i64 0]) 2 16 Try.underlying22 hi hi0 hi1 hi2 rfl (by decide) (.slice av m cv) (Wv ++ Nv).length (flat (Wv ++ Nv)) rfl ?ho ⟨W6.heap.size, 0, none⟩ 1 1 (by decide) [.int .i64 q.1, .int .i64 q.2] rfl rfl ?hn ?c1 ?c2 ?c3 ?c4)
                  case ho => exact OW.out.ext (((Ext.refl _).alloc _).drew)
                  case hn =>
                    have := cell_two_new (W6.setCell ⟨ob, kq, none⟩ (.int .i64 (dst g p c + 1))) (.int .i64 q.1) (.int .i64 q.2) 26
                    simpa using this
                  case c1 => intro u hu; simp at hu; rcases hu with rfl | rfl <;> rfl
                  case c2 => unfold maxLen; omega
                  case c3 => omega
                  case c4 =>
                    intro v' w5 hown5 hend5
                    have O5 : Owns w5 v' ((Wv ++ Nv) ++ [q]) := owns_succ (by rw [List.length_append]; exact hown5)
                    rw [List.append_assoc] at O5
                    obtain ⟨av', cv', rfl, _, _⟩ := O5.reads
                    have HO5 := Lib.hid O5
                    have HEND := Lib.hid hend5
                    have EA : Hid (Ext (W6.setCell ⟨ob, kq, none⟩ (.int .i64 (dst g p c + 1))) ((W6.setCell ⟨ob, kq, none⟩ (.int .i64 (dst g p c + 1))).alloc (.cells #[.int .i64 q.1, .int .i64 q.2] 26)).drew) := ((Ext.refl _).alloc _).drew
                    have hss : (W6.setCell ⟨ob, kq, none⟩ (.int .i64 (dst g p c + 1))).heap.size = W6.heap.size := by simp
                    have K5 : Hid (Kept (fun k => (Value.slice av m cv).ownBlock ≠ some k) 0 ((W6.setCell ⟨ob, kq, none⟩ (.int .i64 (dst g p c + 1))).alloc (.cells #[.int .i64 q.1, .int .i64 q.2] 26)).drew w5) := Kept.grown hend5 (fun b hb hn => hn hb)
                    have S7 : ((W6.setCell ⟨ob, kq, none⟩ (.int .i64 (dst g p c + 1))).alloc (.cells #[.int .i64 q.1, .int .i64 q.2] 26)).drew.heap.size = W6.heap.size + 1 := by simp
                    clear hown5 hend5 O5
                    go_wp2
                    have vbb := X.out.vb
                    refine ⟨⟨j + 1, q :: sj, Nv ++ [q], av', cv', _, by omega, by go_num, rfl, by show _ = _; rfl, ?_⟩, by simp [intOf]; omega⟩
                    exact {
                      e := HSN.out
                      o := by
                        have h1 := (X.out.o.set (i := kq) (by rw [← HNN.out]; exact kq3) (dst g p c + 1)).congr (M := fun k => if cellAt g k ∈ q :: sj then dst g p (cellAt g k) else -1) (fun k hk => by
                          try dsimp only
                          by_cases ek : k = kq
                          · rw [if_pos ek, ek, HKQ.out, cellAt_kx hqi.out, if_pos (List.mem_cons_self ..), hdq.out]
                          · have hne : cellAt g k ≠ q := fun h => ek (by rw [HKQ.out, ← h, kx_cellAt])
                            rw [if_neg ek]
                            by_cases hm2 : cellAt g k ∈ sj
                            · rw [if_pos hm2, if_pos (List.mem_cons_of_mem _ hm2)]
                            · rw [if_neg hm2, if_neg (fun h => by
                                rcases List.mem_cons.1 h with h | h
                                · exact hne h
                                · exact hm2 h)])
                        exact (h1.ext EA.out).kept K5.out (fun e => nown.out ob e rfl)
                      own := HO5.out
                      vb := fun b hb => by
                        rcases HEND.out with ⟨h1, _, _⟩ | ⟨h1, _⟩
                        · rw [h1] at hb; exact vbb b hb
                        · rw [h1] at hb
                          have hb' : b = W6.heap.size + 1 := by rw [S7] at hb; cases hb; rfl
                          have h5 := X.out.be.size
                          have h7 : bb < W6.heap.size := cell_lt X.out.b1
                          refine ⟨by omega, fun h => ?_, by omega⟩
                          have h6 := X.out.nn.lt h
                          omega
                      be := ((X.out.be.setCell (p := ⟨ob, kq, none⟩) (Nat.le_refl _) _).trans (EA.out.mono (by rw [hss]; omega))).trans (HEND.out.below (by rw [S7]; omega) (fun b hb => by have := (vbb b hb).1; omega))
                      nn := ((X.out.nn.kept KS.out nnear.out).ext EA.out).kept K5.out (fun b hb h => (vbb b h).2.1 hb)
                      b1 := K5.out.cell (p := ⟨bb, 0, none⟩) (fun h => (vbb bb h).2.2 rfl) (EA.out.cell (KS.out.cell (p := ⟨bb, 0, none⟩) (by show bb ≠ ob; omega) X.out.b1))
                      b2 := K5.out.cell (p := ⟨bb, 1, none⟩) (fun h => (vbb bb h).2.2 rfl) (EA.out.cell (KS.out.cell (p := ⟨bb, 1, none⟩) (by show bb ≠ ob; omega) X.out.b2)) }
              · have hje : j = (near g c).length := by omega
                have HJE := Lib.hid hje
                have hjl' : ¬ (j : Int) < ((near g c).length : Int) := by omega
                clear hje
                go_wp2
                have hee := hG.out.e
                rw [HJE.out, List.take_length] at hee
                have hQ2 := HQ.out.step hlt
                rw [HCC.out, hee] at hQ2
                have hlen2 : k + 1 ≤ (Wv ++ Nv).length := by simp; omega
                refine ⟨⟨k + 1, Wv ++ Nv, sj, av, cv, hlen2, by go_num, by rw [← hm.out], by rw [← hm.out]; exact ⟨hQ2, hG.out.o, hG.out.own, fun b hb => (hG.out.vb b hb).1, hG.out.be⟩⟩, by simp [intOf]; omega⟩
          · have hke : k = Wv.length := by omega
            have HKE := Lib.hid hke
            have hlt' : ¬ (k : Int) < (Wv.length : Int) := by omega
            clear hke
            go_wp2
            go_ret
            refine ⟨some ⟨ob, 0, none⟩, ⟨n, by rw [tabL_len, ← HNN.out]; rfl⟩, fun j hj => ?_, Below.trans EW (hF.out.be.mono (by omega))⟩
            rw [tabL_len] at hj
            refine ⟨ob, 0, rfl, ?_⟩
            rw [Nat.zero_add, tabL_get hj, (hF.out.o j hj).1]
            by_cases hm : cellAt g j ∈ sn
            · simp [hm]
            · simp only [hm, if_false]
              rw [hF.out.q.done HKE.out hm]
end Go.Proofs.Ytfigooilhnahfaa
/- The reference's at and Few. -/
namespace Go.Proofs.Ytfigooilhnahfaa
open Go.RowKit

set_option maxHeartbeats 1000000 in
theorem atR_any (g : Gr) (D : Pt → Int) (s : Value) (a : Option Addr) (cap : Nat) (p : Pt) (w : World) (hr : Right g) (hp : inside g p = true) (hc : CellsI w a (tabL g D)) :
    Calls Try.prog 52 #[.agg #[.int .i64 g.rows, .int .i64 g.cols, s], .slice a (tabL g D).length cap, .agg #[.int .i64 p.1, .int .i64 p.2]] w fun e w' => e = .returned (.int .i64 (D p)) ∧ Ext w w' := by
  obtain ⟨x, k1, k2, k3⟩ := kxF hr hp
  have hk : kx g p < (tabL g D).length := by rw [tabL_len]; exact k3
  obtain ⟨b, off, rfl, h1⟩ := hc (kx g p) hk
  rw [tabL_get k3, cellAt_kx hp] at h1
  generalize kx g p = k at k2 hk h1
  generalize (tabL g D).length = n at hk
  have hk' : (k : Int) < (n : Int) := by omega
  have E0 : Ext w ((w.alloc (.cells #[.int .i64 g.rows, .int .i64 g.cols, s] 24)).alloc (.cells #[.int .i64 p.1, .int .i64 p.2] 26)) := ((Ext.refl _).alloc _).alloc _
  have zb := cell_lt h1
  dsimp only at zb
  clear hc hr hp k3
  go_enter Try.func52, Try.ntmps52
  go_wp2
  go_ret
  exact ⟨rfl, E0⟩

def fewB (g : Gr) : Bool := decide (g.bl.length ≤ 512) && ((decide (g.rows ≤ 7) && decide (g.cols ≤ 7)) || decide (chk g ≠ 0))
set_option maxHeartbeats 1000000 in
theorem Few_any (g : Gr) (ga : Option Addr) (gc : Nat) (w : World) (hg : g.bl.length ≤ maxLen) (hc : Cells2 w ga g.bl) :
    Calls Try.prog 12 #[.agg #[.int .i64 g.rows, .int .i64 g.cols, .slice ga g.bl.length gc]] w fun e w' => e = .returned (.bool (fewB g)) ∧ Ext w w' := by
  have HC : Hid (Cells2 w ga g.bl) := hc
  have HG := Lib.hid hg
  clear hc hg
  have E0 : Ext w (((w).alloc (.cells #[.int .i64 g.rows, .int .i64 g.cols, .slice ga g.bl.length gc] 24))) := (Ext.refl _).alloc _
  by_cases h1 : g.bl.length ≤ 512
  · have h1' : (g.bl.length : Int) ≤ 512 := by omega
    by_cases h2 : g.rows ≤ 7 ∧ g.cols ≤ 7
    · obtain ⟨h2, h3⟩ := h2
      have hb : Hid (fewB g = true) := by show _ = _; unfold fewB; simp [h1, h2, h3]
      clear h1
      go_enter Try.func12, Try.ntmps12
      go_wp2
      go_ret
      exact ⟨ret_bool hb.out.symm, E0⟩
    · have hb : Hid (fewB g = decide (chk g ≠ 0)) := by
        show _ = _
        unfold fewB
        have : (decide (g.rows ≤ 7) && decide (g.cols ≤ 7)) = false := by simp; omega
        rw [this]; simp [h1]
      have H1 := Lib.hid h1
      clear h1
      have fin : ∀ b : Bool, (g.rows ≤ 7 → ¬ g.cols ≤ 7) → Calls Try.prog 12 #[.agg #[.int .i64 g.rows, .int .i64 g.cols, .slice ga g.bl.length gc]] w fun e w' => e = .returned (.bool (fewB g)) ∧ Ext w w' := fun _ hh => by
        by_cases h3 : g.rows ≤ 7
        · have h4 := hh h3
          clear h2 hh
          go_enter Try.func12, Try.ntmps12
          go_wp2_with fail
          refine (CheckR_any g ga gc _ HG.out (HC.out.ext E0)).mono ?_
          rintro e w1 ⟨rfl, hE⟩
          go_wp2
          go_ret
          exact ⟨ret_bool (by rw [hb.out]; cases h5 : decide (chk g ≠ 0) <;> simp_all), E0.trans hE⟩
        · clear h2 hh
          go_enter Try.func12, Try.ntmps12
          go_wp2_with fail
          refine (CheckR_any g ga gc _ HG.out (HC.out.ext E0)).mono ?_
          rintro e w1 ⟨rfl, hE⟩
          go_wp2
          go_ret
          exact ⟨ret_bool (by rw [hb.out]; cases h5 : decide (chk g ≠ 0) <;> simp_all), E0.trans hE⟩
      exact fin true (fun h3 h4 => h2 ⟨h3, h4⟩)
  · have h1' : ¬ (g.bl.length : Int) ≤ 512 := by omega
    have hb : Hid (fewB g = false) := by show _ = _; unfold fewB; simp [h1]
    clear h1
    go_enter Try.func12, Try.ntmps12
    go_wp2
    go_ret
    exact ⟨ret_bool hb.out.symm, E0⟩
end Go.Proofs.Ytfigooilhnahfaa
/- The reference's Meet. -/
namespace Go.Proofs.Ytfigooilhnahfaa
open Go.RowKit

theorem Far_any2 (g : Gr) (p : Pt) (ga : Option Addr) (gc n : Nat) (w : World) (hn : n = g.rows.toNat * g.cols.toNat) (hr : Right g) (hp : inside g p = true) (hc : Cells2 w ga g.bl) :
    Calls Try.prog 51 #[.agg #[.int .i64 g.rows, .int .i64 g.cols, .slice ga g.bl.length gc], .agg #[.int .i64 p.1, .int .i64 p.2]] w fun e w' => ∃ a cap, e = .returned (.slice a n cap) ∧ CellsI w' a (tabL g (dst g p)) ∧ Ext w w' :=
  (Far_any g p ga gc w hr hp hc).mono fun e w' ⟨a, cap, h1, h2, h3⟩ => ⟨a, cap, by rw [h1, tabL_len, hn], h2, h3⟩
theorem atR_any2 (g : Gr) (D : Pt → Int) (s : Value) (a : Option Addr) (cap n : Nat) (p : Pt) (w : World) (hn : n = g.rows.toNat * g.cols.toNat) (hr : Right g) (hp : inside g p = true) (hc : CellsI w a (tabL g D)) :
    Calls Try.prog 52 #[.agg #[.int .i64 g.rows, .int .i64 g.cols, s], .slice a n cap, .agg #[.int .i64 p.1, .int .i64 p.2]] w fun e w' => e = .returned (.int .i64 (D p)) ∧ Ext w w' := by
  have := atR_any g D s a cap p w hr hp hc
  rw [tabL_len, ← hn] at this
  exact this
theorem quoF {g : Gr} (hr : Right g) (k : Nat) : (k : Int).tdiv g.cols = ((k / g.cols.toNat : Nat) : Int) ∧ (k : Int).tmod g.cols = ((k % g.cols.toNat : Nat) : Int) ∧ (k : Int) / g.cols = ((k / g.cols.toNat : Nat) : Int) ∧ (k : Int) % g.cols = ((k % g.cols.toNat : Nat) : Int) := by
  have h := hr.c1
  obtain ⟨c, hc⟩ : ∃ c : Nat, g.cols = (c : Int) := ⟨g.cols.toNat, by omega⟩
  rw [hc]
  simp only [Int.toNat_natCast]
  refine ⟨?_, ?_, (Int.natCast_ediv _ _).symm, (Int.natCast_emod _ _).symm⟩
  · rw [Int.tdiv_eq_ediv_of_nonneg (by omega)]; exact (Int.natCast_ediv _ _).symm
  · rw [Int.tmod_eq_emod_of_nonneg (by omega)]; exact (Int.natCast_emod _ _).symm
theorem CellsI.below {m : Nat} {w w' : World} {a : Option Addr} {l : List Int} (h : CellsI w a l) (he : Below m w w') (hm : ∀ b off, a = some ⟨b, off, none⟩ → b < m) : CellsI w' a l := fun i hi => by
  obtain ⟨b, off, h1, h2⟩ := h i hi
  exact ⟨b, off, h1, (he.cell (p := ⟨b, _, none⟩) (hm b off h1)).trans h2⟩
theorem CellsI.lt {w : World} {a : Option Addr} {l : List Int} (h : CellsI w a l) (hl : 0 < l.length) {b off : Nat} (ha : a = some ⟨b, off, none⟩) : b < w.heap.size := by
  obtain ⟨b', off', h1, h2⟩ := h 0 hl
  rw [ha] at h1
  cases h1
  exact cell_lt h2

set_option maxHeartbeats 4000000 in
set_option maxRecDepth 100000 in
theorem MeetR_any (g : Gr) (p q r : Pt) (ga : Option Addr) (gc : Nat) (w : World) (hg : g.bl.length ≤ maxLen) (hc : Cells2 w ga g.bl) :
    Calls Try.prog 16 #[.agg #[.int .i64 g.rows, .int .i64 g.cols, .slice ga g.bl.length gc], .agg #[.int .i64 p.1, .int .i64 p.2, .int .i64 q.1, .int .i64 q.2, .int .i64 r.1, .int .i64 r.2]] w fun e w' =>
      e = .returned (.tuple #[.agg #[.int .i64 (meetP g p q r).1, .int .i64 (meetP g p q r).2], .int .i64 (meetN g p q r), .int .i64 (meetE g p q r)]) ∧ Ext w w' := by
  have HC : Hid (Cells2 w ga g.bl) := hc
  have HG := Lib.hid hg
  clear hc hg
  obtain ⟨W0, hW0⟩ : ∃ W0, ((((w).alloc (.cells #[.int .i64 g.rows, .int .i64 g.cols, .slice ga g.bl.length gc] 24))).alloc (.cells #[.int .i64 p.1, .int .i64 p.2, .int .i64 q.1, .int .i64 q.2, .int .i64 r.1, .int .i64 r.2] 27)).alloc (.cells #[.int .i64 0, .int .i64 0] 26) = W0 := ⟨_, rfl⟩
  have E0 : Ext w W0 := by rw [← hW0]; exact (((Ext.refl _).alloc _).alloc _).alloc _
  have F0 : Hid (MtFix g p q r ga gc w.heap.size W0) := by
    rw [← hW0]; clear hW0
    exact ⟨by go_simp, by go_simp, by go_simp, by go_simp, by go_simp, by go_simp, by go_simp, by go_simp, by go_simp, by go_simp, by go_simp, by go_simp, by go_simp⟩
  obtain ⟨a1, a2, a3, p1, p2, p3, p4, p5, p6, c1, c2, f1, f2⟩ := F0.out
  have H3 : Hid (Cells2 W0 (some ⟨w.heap.size + 1, 0, none⟩) [p, q, r]) := cells2_three p1 p2 p3 p4 p5 p6
  go_enter Try.func16, Try.ntmps16
  go_wp2_with fail
  clear hW0
  have y1 := cell_lt a1; have y2 := cell_lt p1
  dsimp only at y1 y2
  go_region_held3 (fun w' => Sees W0 w') ((repeat (first | exact Sees.refl _ | assumption | apply Sees.drew | apply Sees.alloc | (refine Sees.ext ?_ (by assumption))))) (first | (go_at_call 50; refine (givenR_any g [p, q, r] ga gc _ _ _ HG.out (HC.out.ext (E0.trans (by exact (show Sees W0 _ by assumption).2.2))) (by simp [maxLen]) (H3.out.ext (by exact (show Sees W0 _ by assumption).2.2))).mono ?_; rintro e w' ⟨rfl, hE2⟩))
  have hS := (show Sees W0 _ by assumption).2.2
  have F1 : Hid (MtFix g p q r ga gc w.heap.size w') := F0.out.ext hS
  have E1 := E0.trans hS
  clear y1 y2 a1 a2 a3 p1 p2 p3 p4 p5 p6 c1 c2 f1 f2 H3 F0 E0 hS
  generalize w' = W1 at F1 E1 ⊢
  by_cases h0 : givenErr g [p, q, r] = 0
  · obtain ⟨hr, ho⟩ := given_ok h0
    have HR := Lib.hid hr
    have HP : Hid (inside g p = true) := opn_inside (ho p (by simp))
    have HQ : Hid (inside g q = true) := opn_inside (ho q (by simp))
    have HRR : Hid (inside g r = true) := opn_inside (ho r (by simp))
    have HV : Hid (meetP g p q r = (if meetBad g p q r = true then (0, 0) else (meetV g p q r).2) ∧ meetN g p q r = (if meetBad g p q r = true then 0 else (meetV g p q r).1) ∧ meetE g p q r = if meetBad g p q r = true then 6 else 0) := by
      show _ ∧ _ ∧ _
      unfold meetP meetN meetE
      exact ⟨if_neg (by simp [h0]), if_neg (by simp [h0]), if_neg (by simp [h0])⟩
    rw [h0]
    clear h0 hr ho
    obtain ⟨a1, a2, a3, p1, p2, p3, p4, p5, p6, c1, c2, f1, f2⟩ := F1.out
    have z2 := F1.out.lt
    have z1 : w.heap.size + 1 < W1.heap.size := by omega
    have z0 : w.heap.size < W1.heap.size := by omega
    obtain ⟨n, hn⟩ : ∃ n, n = g.rows.toNat * g.cols.toNat := ⟨_, rfl⟩
    have HNN := Lib.hid hn
    clear hn
    go_wp2_with fail
    go_region_held3 (fun w' => Sees W1 w') ((repeat (first | exact Sees.refl _ | assumption | apply Sees.drew | apply Sees.alloc | (refine Sees.ext ?_ (by assumption))))) (first | (go_at_call 51; have hIp0 := hIq; refine (Far_any2 g r ga gc n _ HNN.out HR.out HRR.out (HC.out.ext (E1.trans (by exact (show Sees W1 _ by assumption).2.2)))).mono ?_; rintro e w' ⟨fc, cc, rfl, hIr, hE2⟩; have hIp := hIp.ext hE2; have hIq := hIq.ext hE2) | (go_at_call 51; have hIp0 := hIp; refine (Far_any2 g q ga gc n _ HNN.out HR.out HQ.out (HC.out.ext (E1.trans (by exact (show Sees W1 _ by assumption).2.2)))).mono ?_; rintro e w' ⟨fb, cb, rfl, hIq, hE2⟩; have hIp := hIp.ext hE2) | (go_at_call 51; refine (Far_any2 g p ga gc n _ HNN.out HR.out HP.out (HC.out.ext (E1.trans (by exact (show Sees W1 _ by assumption).2.2)))).mono ?_; rintro e w' ⟨fa, ca, rfl, hIp, hE2⟩))
    have hS := (show Sees W1 _ by assumption).2.2
    have FX2 := Lib.hid (F1.out.ext hS)
    have E2 := E1.trans hS
    have HI0 := Lib.hid hIp
    have HI1 := Lib.hid hIq
    have HI2 := Lib.hid hIr
    clear a1 a2 a3 p1 p2 p3 p4 p5 p6 c1 c2 f1 f2 hS hIp hIq hIr F1 E1 z0 z1 z2
    generalize w' = W2 at FX2 E2 HI0 HI1 HI2 ⊢
    obtain ⟨a1, a2, a3, p1, p2, p3, p4, p5, p6, c1, c2, f1, f2⟩ := FX2.out
    go_wp2_with fail
    refine (atR_any2 g (dst g p) _ fa ca n q _ HNN.out HR.out HQ.out HI0.out).mono ?_
    rintro e W3 ⟨rfl, hE⟩
    have FX3 := Lib.hid (FX2.out.ext hE)
    have E3 := E2.trans hE
    have HI0 := Lib.hid (HI0.out.ext hE)
    have HI1 := Lib.hid (HI1.out.ext hE)
    have HI2 := Lib.hid (HI2.out.ext hE)
    clear a1 a2 a3 p1 p2 p3 p4 p5 p6 c1 c2 f1 f2 hE FX2 E2
    obtain ⟨a1, a2, a3, p1, p2, p3, p4, p5, p6, c1, c2, f1, f2⟩ := FX3.out
    cases hx0 : decide (dst g p q < 0)
    · have hx0' : ¬ dst g p q < 0 := by simpa using hx0
      go_wp2_with fail
      refine (atR_any2 g (dst g p) _ fa ca n r _ HNN.out HR.out HRR.out HI0.out).mono ?_
      rintro e W4 ⟨rfl, hE⟩
      have FX4 := Lib.hid (FX3.out.ext hE)
      have E4 := E3.trans hE
      have HI0 := Lib.hid (HI0.out.ext hE)
      have HI1 := Lib.hid (HI1.out.ext hE)
      have HI2 := Lib.hid (HI2.out.ext hE)
      clear a1 a2 a3 p1 p2 p3 p4 p5 p6 c1 c2 f1 f2 hE FX3 E3
      obtain ⟨a1, a2, a3, p1, p2, p3, p4, p5, p6, c1, c2, f1, f2⟩ := FX4.out
      cases hx1 : decide (dst g p r < 0)
      · have hx1' : ¬ dst g p r < 0 := by simpa using hx1
        have HB : Hid (meetBad g p q r = false) := by show _ = _; unfold meetBad; rw [hx0, hx1]; rfl
        have zx := FX4.out.lt
        have z0 : w.heap.size < W4.heap.size := by omega
        go_wp2_with fail
        have E5 : Ext W4 (W4.alloc (.cells #[.int .i64 0, .int .i64 0] 26)) := (Ext.refl _).alloc _
        obtain ⟨bat, hbat⟩ : ∃ b, b = W4.heap.size := ⟨_, rfl⟩
        have FX5 := Lib.hid (FX4.out.ext E5)
        have hpos : 0 < n := by
          rw [HNN.out]
          exact Nat.mul_pos (by have := HR.out.r1; omega) (by have := HR.out.c1; omega)
        have lt0 : Hid (∀ b off, fa = some ⟨b, off, none⟩ → b < bat) := fun b off h => by rw [hbat]; exact HI0.out.lt (by rw [tabL_len, ← HNN.out]; exact hpos) h
        have lt1 : Hid (∀ b off, fb = some ⟨b, off, none⟩ → b < bat) := fun b off h => by rw [hbat]; exact HI1.out.lt (by rw [tabL_len, ← HNN.out]; exact hpos) h
        have lt2 : Hid (∀ b off, fc = some ⟨b, off, none⟩ → b < bat) := fun b off h => by rw [hbat]; exact HI2.out.lt (by rw [tabL_len, ← HNN.out]; exact hpos) h
        have HI0 := Lib.hid (HI0.out.ext E5)
        have HI1 := Lib.hid (HI1.out.ext E5)
        have HI2 := Lib.hid (HI2.out.ext E5)
        have EV5 := E4.trans E5
        have b1 : (W4.alloc (.cells #[.int .i64 0, .int .i64 0] 26)).cell? ⟨bat, 0, none⟩ = some (.int .i64 0) := by rw [hbat]; clear hbat; go_simp
        have b2 : (W4.alloc (.cells #[.int .i64 0, .int .i64 0] 26)).cell? ⟨bat, 1, none⟩ = some (.int .i64 0) := by rw [hbat]; clear hbat; go_simp
        have b3 : (W4.alloc (.cells #[.int .i64 0, .int .i64 0] 26)).frozen? ⟨bat, 0, none⟩ = false := by rw [hbat]; clear hbat; go_simp
        have b4 : (W4.alloc (.cells #[.int .i64 0, .int .i64 0] 26)).frozen? ⟨bat, 1, none⟩ = false := by rw [hbat]; clear hbat; go_simp
        have zw : w.heap.size + 1 + 1 < bat := by rw [hbat]; exact FX4.out.lt
        have zbat : bat < (W4.alloc (.cells #[.int .i64 0, .int .i64 0] 26)).heap.size := by rw [hbat]; simp
        rw [← hbat]
        clear hbat a1 a2 a3 p1 p2 p3 p4 p5 p6 c1 c2 f1 f2 zx z0 FX4 E4 E5
        generalize W4.alloc (.cells #[.int .i64 0, .int .i64 0] 26) = V5 at FX5 HI0 HI1 HI2 EV5 b1 b2 b3 b4 zbat ⊢
        obtain ⟨mk, hmk⟩ : ∃ mk, mk = meetK g (dst g p) (dst g q) (dst g r) := ⟨_, rfl⟩
        have HMK0 : Hid (mk 0 = (-1, (0, 0))) := by rw [hmk]; rfl
        have HMKS : Hid (∀ k, mk (k + 1) = meetStep (dst g p) (dst g q) (dst g r) (mk k) (cellAt g k)) := by rw [hmk]; intro k; rfl
        have HMKB : Hid (∀ k, -3 ≤ (mk k).1 ∧ (mk k).1 ≤ 12288) := by
          rw [hmk]
          exact meetK_bd (fun x => ⟨(dst_bd HR.out HP.out x).1, (dst_bd HR.out HP.out x).2, (dst_bd HR.out HQ.out x).1, (dst_bd HR.out HQ.out x).2, (dst_bd HR.out HRR.out x).1, (dst_bd HR.out HRR.out x).2⟩)
        have HMKE : Hid (meetV g p q r = mk n) := by rw [hmk, HNN.out]; rfl
        have hn1 : n ≤ 4096 := by
          rw [HNN.out]; exact Nat.mul_le_mul (show g.rows.toNat ≤ 64 by have := HR.out.r2; omega) (show g.cols.toNat ≤ 64 by have := HR.out.c2; omega)
        clear hmk
        have hc1 := HR.out.c1
        have hc2 := HR.out.c2
        go_loopw [12, 13] (fun b i wr => ∃ k : Nat, k ≤ n ∧ i = .int .i64 k ∧ b = .int .i64 (mk k).1 ∧ Hid (Below bat V5 wr) ∧ wr.cell? ⟨bat, 0, none⟩ = some (.int .i64 (mk k).2.1) ∧ wr.cell? ⟨bat, 1, none⟩ = some (.int .i64 (mk k).2.2) ∧ wr.frozen? ⟨bat, 0, none⟩ = false ∧ wr.frozen? ⟨bat, 1, none⟩ = false) (fun _ i _ => n - (intOf i).toNat)
        case atStart =>
          refine ⟨0, Nat.zero_le _, rfl, ?_, Below.refl _ _, ?_, ?_, b3, b4⟩
          · rw [HMK0.out]
          · rw [HMK0.out]; exact b1
          · rw [HMK0.out]; exact b2
        case round =>
          clear b1 b2 b3 b4
          obtain ⟨k, hk, rfl, rfl, hB, b1, b2, b3, b4⟩ := hrel
          have hmb := HMKB.out k
          have FX := Lib.hid (FX5.out.below hB.out zw)
          have zwr : bat < wr.heap.size := Nat.lt_of_lt_of_le zbat hB.out.size
          obtain ⟨a1, a2, a3, p1, p2, p3, p4, p5, p6, c1, c2, f1, f2⟩ := FX.out
          by_cases hlt : k < n
          · have hlt' : (k : Int) < (n : Int) := by omega
            clear p1 p2 p3 p4 p5 p6 c1 c2 f1 f2
            have hkl : k < g.rows.toNat * g.cols.toNat := by rw [← HNN.out]; exact hlt
            obtain ⟨ba, oa, rfl, d0⟩ := HI0.out.below hB.out lt0.out k (by rw [tabL_len]; exact hkl)
            obtain ⟨bb, ob, rfl, d1⟩ := HI1.out.below hB.out lt1.out k (by rw [tabL_len]; exact hkl)
            obtain ⟨bc, oc, rfl, d2⟩ := HI2.out.below hB.out lt2.out k (by rw [tabL_len]; exact hkl)
            rw [tabL_get hkl] at d0 d1 d2
            have hst := HMKS.out k
            unfold meetStep at hst
            have hcl : Hid (cellAt g k = (((k / g.cols.toNat : Nat) : Int), ((k % g.cols.toNat : Nat) : Int))) := rfl
            obtain ⟨bd1, bd2⟩ := dst_bd HR.out HP.out (cellAt g k)
            obtain ⟨bd3, bd4⟩ := dst_bd HR.out HQ.out (cellAt g k)
            obtain ⟨bd5, bd6⟩ := dst_bd HR.out HRR.out (cellAt g k)
            generalize dst g p (cellAt g k) = A at d0 hst bd1 bd2
            generalize dst g q (cellAt g k) = B at d1 hst bd3 bd4
            generalize dst g r (cellAt g k) = C at d2 hst bd5 bd6
            have s2 : IntKind.i64.wrap (A + B) = A + B := IntWalk.i64_in _ (by omega)
            have s3 : IntKind.i64.wrap (A + B + C) = A + B + C := IntWalk.i64_in _ (by omega)
            have hEN : Hid (∀ N, Ext wr (wr.drewN N)) := fun N => (Ext.refl _).drewN _
            obtain ⟨x1, x2, x3, x4⟩ := quoF HR.out k
            have x5 : IntKind.i64.wrap ((k / g.cols.toNat : Nat) : Int) = ((k / g.cols.toNat : Nat) : Int) := by
              have h := Nat.div_le_self k g.cols.toNat
              generalize k / g.cols.toNat = y at h ⊢
              exact IntWalk.i64_in _ (by omega)
            have x6 : IntKind.i64.wrap ((k % g.cols.toNat : Nat) : Int) = ((k % g.cols.toNat : Nat) : Int) := by
              have h := Nat.mod_le k g.cols.toNat
              generalize k % g.cols.toNat = y at h ⊢
              exact IntWalk.i64_in _ (by omega)
            generalize k / g.cols.toNat = kd at x1 x3 x5 hcl
            generalize k % g.cols.toNat = km at x2 x4 x6 hcl
            have x7 : (g.cols == 0) = false := by simp; omega
            clear hkl
            go_wp2_with fail
            go_quiet (fail)
            have d0 := (hEN.out nq).cell d0
            have d1 := (hEN.out nq).cell d1
            have d2 := (hEN.out nq).cell d2
            have b1 := (hEN.out nq).cell b1
            have b2 := (hEN.out nq).cell b2
            have a2 := (hEN.out nq).cell a2
            have b3 := ((hEN.out nq).frozen (p := ⟨bat, 0, none⟩) zwr).trans b3
            have b4 := ((hEN.out nq).frozen (p := ⟨bat, 1, none⟩) zwr).trans b4
            have hB := Lib.hid (hB.out.trans ((hEN.out nq).mono (by omega)))
            clear hEN zwr
            generalize wr.drewN nq = w9 at d0 d1 d2 b1 b2 b3 b4 a2 hB ⊢
            by_cases hA : A < 0
            · have hA' : ¬ 0 ≤ A := by omega
              have hA2 : decide (0 ≤ A) = false := by simp; omega
              rw [if_pos hA] at hst
              have HST := Lib.hid hst
              clear hst
              go_wp2
              refine ⟨⟨k + 1, by omega, by go_num, ?_, hB.out, ?_, ?_, b3, b4⟩, by simp [intOf]; omega⟩
              · rw [HST.out]
              · rw [HST.out]; exact b1
              · rw [HST.out]; exact b2
            · rw [if_neg hA] at hst
              have hA' : 0 ≤ A := by omega
              have hA2 : decide (0 ≤ A) = true := by simp; omega
              have HST := Lib.hid hst
              clear hst
              cases h1 : decide ((mk k).1 < 0)
              · cases h2 : decide (A + B + C < (mk k).1)
                · have HST := Lib.hid (HST.out.trans (if_neg (by simp at h1 h2; omega)))
                  go_wp2
                  refine ⟨⟨k + 1, by omega, by go_num, ?_, hB.out, ?_, ?_, b3, b4⟩, by simp [intOf]; omega⟩
                  · rw [HST.out]
                  · rw [HST.out]; exact b1
                  · rw [HST.out]; exact b2
                · have HST := Lib.hid (HST.out.trans (if_pos (.inr (by simpa using h2))))
                  go_wp2_with fail
                  go_region
                  all_goals go_wp2
                  all_goals refine ⟨⟨k + 1, by omega, by go_num, ?_, ?_, ?_, ?_, by go_simp, by go_simp⟩, by simp [intOf]; omega⟩
                  all_goals first | exact (Below.setCell (p := ⟨bat, 1, none⟩) (Below.setCell (p := ⟨bat, 0, none⟩) hB.out (Nat.le_refl _) _) (Nat.le_refl _) _).drew | (rw [HST.out, hcl.out]; first | rfl | go_simp) | (rw [HST.out])
              · have HST := Lib.hid (HST.out.trans (if_pos (.inl (by simpa using h1))))
                go_wp2_with fail
                go_region
                all_goals go_wp2
                all_goals refine ⟨⟨k + 1, by omega, by go_num, ?_, ?_, ?_, ?_, by go_simp, by go_simp⟩, by simp [intOf]; omega⟩
                all_goals first | exact (Below.setCell (p := ⟨bat, 1, none⟩) (Below.setCell (p := ⟨bat, 0, none⟩) hB.out (Nat.le_refl _) _) (Nat.le_refl _) _).drew | (rw [HST.out, hcl.out]; first | rfl | go_simp) | (rw [HST.out])
          · have hlt' : ¬ (k : Int) < (n : Int) := by omega
            have hke : k = n := by omega
            go_wp2
            try simp only [Exit.inBlock, Exit.then]
            refine bodyPost_ret (v := .tuple #[.agg #[.int .i64 (mk n).2.1, .int .i64 (mk n).2.2], .int .i64 (mk n).1, .int .i64 0]) (by rw [results_cell_tmp2 rfl]; go_simp) rfl ⟨?_, ?_⟩
            · rw [HV.out.1, HV.out.2.1, HV.out.2.2, HB.out, HMKE.out]
              rfl
            · exact Below.setCell (p := ⟨_, 1, none⟩) (Below.setCell (p := ⟨_, 0, none⟩) (Below.trans EV5 (hB.out.mono (by omega))) (by show w.heap.size ≤ w.heap.size + 1 + 1; omega) _) (by show w.heap.size ≤ w.heap.size + 1 + 1; omega) _
      · have hx1' : dst g p r < 0 := by simpa using hx1
        have HB : Hid (meetBad g p q r = true) := by show _ = _; unfold meetBad; rw [hx0, hx1]; rfl
        go_wp2
        try simp only [Exit.inBlock, Exit.then]
        refine bodyPost_ret (v := .tuple #[.agg #[.int .i64 0, .int .i64 0], .int .i64 0, .int .i64 6]) (by rw [results_cell_tmp2 rfl]; go_simp) rfl ⟨?_, ?_⟩
        · rw [HV.out.1, HV.out.2.1, HV.out.2.2, if_pos HB.out, if_pos HB.out, if_pos HB.out]
        · exact Below.setCell (p := ⟨_, 1, none⟩) (Below.setCell (p := ⟨_, 0, none⟩) E4 (by show w.heap.size ≤ w.heap.size + 1 + 1; omega) _) (by show w.heap.size ≤ w.heap.size + 1 + 1; omega) _
    · have hx0' : dst g p q < 0 := by simpa using hx0
      have HB : Hid (meetBad g p q r = true) := by show _ = _; unfold meetBad; rw [hx0]; rfl
      go_wp2
      try simp only [Exit.inBlock, Exit.then]
      refine bodyPost_ret (v := .tuple #[.agg #[.int .i64 0, .int .i64 0], .int .i64 0, .int .i64 6]) (by rw [results_cell_tmp2 rfl]; go_simp) rfl ⟨?_, ?_⟩
      · rw [HV.out.1, HV.out.2.1, HV.out.2.2, if_pos HB.out, if_pos HB.out, if_pos HB.out]
      · exact Below.setCell (p := ⟨_, 1, none⟩) (Below.setCell (p := ⟨_, 0, none⟩) E3 (by show w.heap.size ≤ w.heap.size + 1 + 1; omega) _) (by show w.heap.size ≤ w.heap.size + 1 + 1; omega) _
  · have hv : Hid (meetP g p q r = (0, 0) ∧ meetN g p q r = 0 ∧ meetE g p q r = givenErr g [p, q, r]) := by
      show _ ∧ _ ∧ _
      unfold meetP meetN meetE
      exact ⟨if_pos h0, if_pos h0, if_pos h0⟩
    have hb : (givenErr g [p, q, r] != 0) = true := by simp [h0]
    have hb2 : (givenErr g [p, q, r] == 0) = false := by simp [h0]
    clear h0
    obtain ⟨a1, a2, a3, p1, p2, p3, p4, p5, p6, c1, c2, f1, f2⟩ := F1.out
    go_wp2
    try simp only [Exit.inBlock, Exit.then]
    refine bodyPost_ret (v := .tuple #[.agg #[.int .i64 0, .int .i64 0], .int .i64 0, .int .i64 (givenErr g [p, q, r])]) (by rw [results_cell_tmp2 rfl]; go_simp) rfl ⟨?_, ?_⟩
    · rw [hv.out.1, hv.out.2.1, hv.out.2.2]
    · exact Below.setCell (p := ⟨_, 1, none⟩) (Below.setCell (p := ⟨_, 0, none⟩) E1 (by show w.heap.size ≤ w.heap.size + 1 + 1; omega) _) (by show w.heap.size ≤ w.heap.size + 1 + 1; omega) _
end Go.Proofs.Ytfigooilhnahfaa
