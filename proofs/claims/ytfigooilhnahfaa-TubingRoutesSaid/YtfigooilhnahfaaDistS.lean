/- The table of distances, in plain Lean; and how it lies in memory. -/
import Derived.Test.YtfigooilhnahfaaWave
namespace Go.Proofs.Ytfigooilhnahfaa
open Go.RowKit

/-- what the last pair says of a cell, -1 if none does -/
def far (l : List (Pt × Nat)) (q : Pt) : Int := l.foldl (fun d x => if x.1 = q then (x.2 : Int) else d) (-1)
theorem far_snoc (l : List (Pt × Nat)) (x : Pt × Nat) (q : Pt) : far (l ++ [x]) q = if x.1 = q then (x.2 : Int) else far l q := by
  unfold far
  rw [List.foldl_append]
  rfl
/-- the distance from a cell, -1 where there is no route -/
def dst (g : Gr) (p q : Pt) : Int := far (wave g p) q

theorem waves_inside (g : Gr) : ∀ (f : Nat) (seen now : List Pt) (n : Nat), WI g seen now → ∀ x ∈ waves g f seen now n, inside g x.1 = true := by
  intro f
  induction f with
  | zero => intro seen now n _ x hx; cases hx
  | succ f ih =>
    intro seen now n h x hx
    unfold waves at hx
    split at hx
    · cases hx
    · rcases List.mem_append.1 hx with hx | hx
      · obtain ⟨q, hq, rfl⟩ := List.mem_map.1 hx
        exact h.ins _ (h.sub _ hq)
      · exact ih _ _ _ (expand_inv now seen [] ⟨h.nd, h.ins, fun q hq => by cases hq⟩).1 x hx
theorem wave_inside {g : Gr} {p : Pt} (hp : inside g p = true) : ∀ x ∈ wave g p, inside g x.1 = true := by
  unfold wave
  exact waves_inside g _ _ _ _ ⟨by simp, fun q hq => by simp at hq; subst hq; exact hp, fun q hq => hq⟩

/-- the first i cells of a table are -1, the others 0 -/
def FillAt (w : World) (tb i : Nat) : Prop := ∀ k, k < 4096 → w.cell? ⟨tb, k, none⟩ = some (.int .i64 (if k < i then -1 else 0)) ∧ w.frozen? ⟨tb, k, none⟩ = false
theorem FillAt.set {w : World} {tb i : Nat} (h : FillAt w tb i) (hi : i < 4096) : FillAt (w.setCell ⟨tb, i, none⟩ (.int .i64 (-1))) tb (i + 1) := fun k hk => by
  refine ⟨?_, by rw [World.frozen?_setCell]; exact (h k hk).2⟩
  by_cases e : k = i
  · subst e
    rw [World.cell?_setCell_same _ _ _ (h k hk).1, if_pos (by omega)]
  · rw [World.cell?_setCell_other _ _ _ _ (fun h => by simp only [Addr.mk.injEq] at h; omega), (h k hk).1]
    by_cases h1 : k < i
    · rw [if_pos h1, if_pos (by omega)]
    · rw [if_neg h1, if_neg (by omega)]
theorem FillAt.below {m tb i : Nat} {A B : World} (hs : FillAt A tb i) (h : Below m A B) (hm : tb < m) : FillAt B tb i := fun k hk =>
  ⟨(h.cell (p := ⟨tb, _, none⟩) hm).trans (hs k hk).1, (h.frozen (p := ⟨tb, _, none⟩) hm).trans (hs k hk).2⟩

/-- a table says D -/
def TabAt (w : World) (tb : Nat) (D : Pt → Int) : Prop :=
  ∀ q : Pt, InG q → w.cell? ⟨tb, q.1.toNat * 64 + q.2.toNat, none⟩ = some (.int .i64 (D q)) ∧ w.frozen? ⟨tb, q.1.toNat * 64 + q.2.toNat, none⟩ = false
theorem TabAt.below {m tb : Nat} {D : Pt → Int} {A B : World} (hs : TabAt A tb D) (h : Below m A B) (hm : tb < m) : TabAt B tb D := fun q hq =>
  ⟨(h.cell (p := ⟨tb, _, none⟩) hm).trans (hs q hq).1, (h.frozen (p := ⟨tb, _, none⟩) hm).trans (hs q hq).2⟩
theorem TabAt.lt {w : World} {tb : Nat} {D : Pt → Int} (h : TabAt w tb D) : tb < w.heap.size := cell_lt (h (0, 0) ⟨by decide, by decide, by decide, by decide⟩).1
theorem TabAt.ext {tb : Nat} {D : Pt → Int} {A B : World} (hs : TabAt A tb D) (h : Ext A B) : TabAt B tb D := hs.below h hs.lt
theorem TabAt.set {tb : Nat} {A : World} {l : List (Pt × Nat)} (hs : TabAt A tb (far l)) {x : Pt × Nat} (hp : InG x.1) :
    TabAt (A.setCell ⟨tb, x.1.1.toNat * 64 + x.1.2.toNat, none⟩ (.int .i64 x.2)) tb (far (l ++ [x])) := fun q hq => by
  refine ⟨?_, by rw [World.frozen?_setCell]; exact (hs q hq).2⟩
  rw [far_snoc]
  by_cases e : x.1 = q
  · subst e
    rw [World.cell?_setCell_same A _ _ (hs x.1 hq).1, if_pos rfl]
  · rw [World.cell?_setCell_other A _ _ _ (by
      intro h
      simp only [Addr.mk.injEq, true_and, and_true] at h
      exact e (idx_inj hp hq h)), (hs q hq).1, if_neg e]
theorem FillAt.tab {w : World} {tb : Nat} (h : FillAt w tb 4096) : TabAt w tb (far []) := fun q hq => by
  have hl := idx_lt hq
  have := h (q.1.toNat * 64 + q.2.toNat) hl
  rw [if_pos (show q.1.toNat * 64 + q.2.toNat < 4096 from hl)] at this
  exact this
end Go.Proofs.Ytfigooilhnahfaa
