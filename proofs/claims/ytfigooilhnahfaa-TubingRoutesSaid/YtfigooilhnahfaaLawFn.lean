/- at, sent, Wall of the law's package; results that lie in memory. -/
import Derived.Test.YtfigooilhnahfaaLen
import Derived.Laws.ResultCell
namespace Go.Proofs.Ytfigooilhnahfaa
open Go.RowKit

theorem results_cell1 {fn : Func} {p : Tmp} {ty : TypeId} (h : fn.results = #[.cell p ty]) (tmps : Array Value) (P : Program) (w : World) :
    (results fn tmps).run P w = ((asAddr (tmps.getD p undef)).run P w).andThen fun a w₁ => (loadVar ty a).run P w₁ := by
  simp only [results, h]
  simp [Sem.run_bind, Result.andThen]
theorem results_cell_tmp2 {fn : Func} {p u v : Tmp} {ty : TypeId} (h : fn.results = #[.cell p ty, .tmp u, .tmp v]) (tmps : Array Value) (P : Program) (w : World) :
    (results fn tmps).run P w =
      ((asAddr (tmps.getD p undef)).run P w).andThen fun a w₁ => ((loadVar ty a).run P w₁).andThen fun x w₂ => .ok (.tuple #[x, tmps.getD u undef, tmps.getD v undef]) w₂ := by
  simp only [results, h]
  simp [Sem.run_bind, Result.andThen]

theorem Ext.frozen {w w' : World} (h : Ext w w') {p : Addr} (hp : p.block < w.heap.size) : w'.frozen? p = w.frozen? p := Below.frozen h hp

theorem Sees.store {W w' X : World} (h : Sees W w') (hx : Sees W X) (o : Nat) (v : Value) : Sees W (w'.setCell ⟨X.heap.size, o, none⟩ v) := sees (Below.setCell (p := ⟨X.heap.size, o, none⟩) h.2.2 hx.2.2.size v)
theorem new2_c0 (w : World) (a b : Value) (t : TypeId) : (w.alloc (.cells #[a, b] t)).cell? ⟨w.heap.size, 0, none⟩ = some a := by rw [World.cell?_alloc_new]; rfl
theorem new2_c1 (w : World) (a b : Value) (t : TypeId) : (w.alloc (.cells #[a, b] t)).cell? ⟨w.heap.size, 1, none⟩ = some b := by rw [World.cell?_alloc_new]; rfl
theorem new2_f (w : World) (a b : Value) (t : TypeId) (i : Nat) : (w.alloc (.cells #[a, b] t)).frozen? ⟨w.heap.size, i, none⟩ = false := World.frozen?_alloc_new _ _ _ _
/-- a new block of two cells is there behind a call -/
structure New2 (w : World) (pb : Nat) (a b : Value) : Prop where
  c0 : w.cell? ⟨pb, 0, none⟩ = some a
  c1 : w.cell? ⟨pb, 1, none⟩ = some b
  f0 : w.frozen? ⟨pb, 0, none⟩ = false
  f1 : w.frozen? ⟨pb, 1, none⟩ = false
theorem New2.ext {A B : World} {pb : Nat} {a b : Value} (h : New2 A pb a b) (x : Ext A B) : New2 B pb a b :=
  ⟨x.cell h.c0, x.cell h.c1, (x.frozen (p := ⟨pb, 0, none⟩) (cell_lt h.c0)).trans h.f0, (x.frozen (p := ⟨pb, 1, none⟩) (cell_lt h.c1)).trans h.f1⟩
theorem New2.made (w : World) (a b : Value) (t : TypeId) : New2 (w.alloc (.cells #[a, b] t)) w.heap.size a b := ⟨new2_c0 _ _ _ _, new2_c1 _ _ _ _, new2_f _ _ _ _ _, new2_f _ _ _ _ _⟩
theorem New2.drew {w : World} {pb : Nat} {a b : Value} (h : New2 w pb a b) : New2 w.drew pb a b := h.ext (Ext.refl _).drew

theorem at_any (a b : Int) (w : World) :
    Calls Try.prog 45 #[.int .i64 a, .int .i64 b] w fun e w' => e = .returned (.agg #[.int .i64 a, .int .i64 b]) ∧ Ext w w' := by
  go_enter Try.func45, Try.ntmps45
  go_wp2
  try simp only [Exit.inBlock, Exit.then]
  refine bodyPost_ret (v := .agg #[.int .i64 a, .int .i64 b]) (by rw [results_cell1 rfl]; go_simp) rfl ⟨rfl, (Ext.refl _).alloc _⟩
theorem sent_any (g : Gr) (ga : Option Addr) (gc : Nat) (w : World) :
    Calls Try.prog 15 #[.agg #[.int .i64 g.rows, .int .i64 g.cols, .slice ga g.bl.length gc]] w fun e w' => e = .returned (.agg #[.int .i64 g.rows, .int .i64 g.cols, .slice ga g.bl.length gc]) ∧ Ext w w' := by
  go_enter Try.func15, Try.ntmps15
  go_wp2
  try simp only [Exit.inBlock, Exit.then]
  refine bodyPost_ret (v := .agg #[.int .i64 g.rows, .int .i64 g.cols, .slice ga g.bl.length gc]) (by rw [results_cell1 rfl]; go_simp) rfl ⟨rfl, ((Ext.refl _).alloc _).alloc _⟩

def wallG : Gr := ⟨3, 4, [(1, 1), (1, 2)]⟩
theorem Wall_any (w : World) :
    Calls Try.prog 44 #[] w fun e w' => ∃ a, e = .returned (.agg #[.int .i64 3, .int .i64 4, .slice a 2 2]) ∧ Cells2 w' a wallG.bl ∧ Ext w w' := by
  go_enter Try.func44, Try.ntmps44
  go_wp2_with fail
  refine (at_any 1 1 _).mono ?_
  rintro e w1 ⟨rfl, hE⟩
  have E1 : Ext w w1 := ((Ext.refl w).alloc _).trans hE
  have c1 : w1.cell? ⟨w.heap.size, 0, none⟩ = some (.int .i64 0) := hE.cell (by go_simp)
  have c2 : w1.cell? ⟨w.heap.size, 1, none⟩ = some (.int .i64 0) := hE.cell (by go_simp)
  have c3 : w1.cell? ⟨w.heap.size, 2, none⟩ = some (.slice none 0 0) := hE.cell (by go_simp)
  have f1 : w1.frozen? ⟨w.heap.size, 0, none⟩ = false := (hE.frozen (p := ⟨w.heap.size, 0, none⟩) (by simp)).trans (by go_simp)
  have f2 : w1.frozen? ⟨w.heap.size, 1, none⟩ = false := (hE.frozen (p := ⟨w.heap.size, 1, none⟩) (by simp)).trans (by go_simp)
  have f3 : w1.frozen? ⟨w.heap.size, 2, none⟩ = false := (hE.frozen (p := ⟨w.heap.size, 2, none⟩) (by simp)).trans (by go_simp)
  go_wp2_with fail
  refine (at_any 1 2 _).mono ?_
  rintro e w2 ⟨rfl, hE2⟩
  have d1 := hE2.cell c1
  have d2 := hE2.cell c2
  have d3 := hE2.cell c3
  have g1 := (hE2.frozen (p := ⟨w.heap.size, 0, none⟩) (cell_lt c1)).trans f1
  have g2 := (hE2.frozen (p := ⟨w.heap.size, 1, none⟩) (cell_lt c2)).trans f2
  have g3 := (hE2.frozen (p := ⟨w.heap.size, 2, none⟩) (cell_lt c3)).trans f3
  have zz : w.heap.size < w2.heap.size := cell_lt d1
  clear c1 c2 c3 f1 f2 f3
  go_wp2
  try simp only [Exit.inBlock, Exit.then]
  refine bodyPost_ret (v := .agg #[.int .i64 3, .int .i64 4, .slice (some ⟨w2.heap.size, 0, none⟩) 2 2]) (by rw [results_cell1 rfl]; go_simp) rfl ⟨_, rfl, ?_, ?_⟩
  · refine cells2_two ?_ ?_ ?_ ?_ <;> go_simp
  · exact Below.alloc (Below.setCell (p := ⟨_, 2, none⟩) (Below.setCell (p := ⟨_, 1, none⟩) (Below.setCell (p := ⟨_, 0, none⟩) (E1.trans hE2) (Nat.le_refl _) _) (Nat.le_refl _) _) (Nat.le_refl _) _) (by simp; omega) _
end Go.Proofs.Ytfigooilhnahfaa
