/- Steps of the proof: QLaw. No conditions. -/
import Derived.Test.YtnhbogmihnnpjaaGreatYB1
import Derived.Test.YtnhbogmihnnpjaaGreatYB2
import Derived.Test.YtnhbogmihnnpjaaGreatYB3
import Derived.Test.YtnhbogmihnnpjaaGreatYB4
import Derived.Test.YtnhbogmihnnpjaaGreatYB5
import Derived.Test.YtnhbogmihnnpjaaGreatYB6
import Derived.Test.YtnhbogmihnnpjaaGreatYB7
import Derived.Test.YtnhbogmihnnpjaaGreatYB8
import Derived.Test.YtnhbogmihnnpjaaGreatYB9
/- What the laws' walks share. -/
namespace Go.Proofs.YtnhbogmihnnpjaaGreat
open Go.RowKit

theorem cellsQ_one {w : World} {n : Int} {l : List Stp} {a : Option Addr} {c : Nat} (lp : Room a l.length c) (hp : CellsP w a l) :
    CellsQ (w.alloc (.cells #[.int .i64 n, .slice a l.length c] 24)) (some ⟨w.heap.size, 0, none⟩) [(n, l)] := by
  have E : Ext w (w.alloc (.cells #[.int .i64 n, .slice a l.length c] 24)) := (by repeat (first | with_reducible exact Ext.refl _ | with_reducible assumption | with_reducible apply Ext.drewN | with_reducible apply Ext.drew | with_reducible apply Ext.alloc | ((with_reducible refine Ext.set ?_ ?_ _); rotate_left; first | omega | (simp; omega)) | (with_reducible refine Ext.trans ?_ (by with_reducible assumption))))
  intro i hi
  have : i = 0 := by simp at hi; omega
  subst this
  exact ⟨w.heap.size, 0, .slice a l.length c, rfl, by simp [List.getD], by simp, ⟨a, c, rfl, hp.ext E, lp⟩⟩
/-- the result of a call that yields a sequence and an error, at an address -/
theorem SeqErr.at {s : Sq} {er : Int} {w : World} {e : Ending} {w' : World} (h : SeqErr s er w e w') : ∃ a cap, e = .returned (.tuple #[.agg #[.int .i64 s.1, .slice a s.2.length cap], .int .i64 er]) ∧ CellsP w' a s.2 ∧ Room a s.2.length cap ∧ Ext w w' := by
  obtain ⟨v, rfl, ⟨u, rfl, a, cap, rfl, hc, hm⟩, hE⟩ := h
  exact ⟨a, cap, rfl, hc, hm, hE⟩
/-- a sequence's own two cells -/
structure Box (w : World) (b : Nat) (x : Int) (v : Value) : Prop where
  c0 : w.cell? ⟨b, 0, none⟩ = some (.int .i64 x)
  c1 : w.cell? ⟨b, 1, none⟩ = some v
  f0 : w.frozen? ⟨b, 0, none⟩ = false
  f1 : w.frozen? ⟨b, 1, none⟩ = false
  no : ∀ o, 2 ≤ o → w.cell? ⟨b, o, none⟩ = none
theorem Box.ext {w w' : World} {b : Nat} {x : Int} {v : Value} (h : Box w b x v) (k : Ext w w') : Box w' b x v :=
  ⟨k.cell h.c0, k.cell h.c1, (Below.frozen (p := ⟨b, 0, none⟩) k (cell_lt h.c0)).trans h.f0, (Below.frozen (p := ⟨b, 1, none⟩) k (cell_lt h.c1)).trans h.f1, fun o ho => (World.cell?_of_block (Below.block k b (cell_lt h.c0))).trans (h.no o ho)⟩
theorem Box.new (w : World) (x : Int) (a : Option Addr) (n c : Nat) : Box (w.alloc (.cells #[.int .i64 x, .slice a n c] 24)) w.heap.size x (.slice a n c) := by
  refine ⟨by go_simp, by go_simp, by go_simp, by go_simp, fun o ho => ?_⟩
  rw [World.cell?_alloc_new]
  exact Array.getElem?_eq_none (by simpa using ho)
theorem Box.set {w : World} {b : Nat} {x : Int} {v : Value} (h : Box w b x v) (y : Int) (u : Value) : Box ((w.setCell ⟨b, 0, none⟩ (.int .i64 y)).setCell ⟨b, 1, none⟩ u) b y u := by
  have e0 : (w.setCell ⟨b, 0, none⟩ (.int .i64 y)).cell? ⟨b, 0, none⟩ = some (.int .i64 y) := World.cell?_setCell_same _ _ _ h.c0
  have e1 : (w.setCell ⟨b, 0, none⟩ (.int .i64 y)).cell? ⟨b, 1, none⟩ = some v := by
    rw [World.cell?_setCell_other _ _ _ _ (fun h => by simp only [Addr.mk.injEq] at h; omega)]; exact h.c1
  refine ⟨?_, World.cell?_setCell_same _ _ _ e1, by rw [World.frozen?_setCell, World.frozen?_setCell]; exact h.f0, by rw [World.frozen?_setCell, World.frozen?_setCell]; exact h.f1, fun o ho => ?_⟩
  · rw [World.cell?_setCell_other _ _ _ _ (fun h => by simp only [Addr.mk.injEq] at h; omega)]; exact e0
  · rw [World.cell?_setCell_other _ _ _ _ (fun h => by simp only [Addr.mk.injEq] at h; omega), World.cell?_setCell_other _ _ _ _ (fun h => by simp only [Addr.mk.injEq] at h; omega)]; exact h.no o ho
/-- what befalls a sequence's own cells befalls no steps -/
theorem Box.keepK {w : World} {b : Nat} {x : Int} {sa : Option Addr} {sn sc : Nat} (h : Box w b x (.slice sa sn sc)) {a : Option Addr} {l : List Stk} (hc : CellsK w a l) {B : World} (hB : ∀ k, k < w.heap.size → k ≠ b → B.heap[k]? = w.heap[k]?) : CellsK B a l := fun i hi => by
  obtain ⟨b', off, ha, p1, p2⟩ := hc i hi
  have hne : b' ≠ b := by
    rintro rfl
    rcases Nat.lt_or_ge (off + i * 2) 2 with hlt | hge
    · rcases Nat.lt_or_ge (off + i * 2) 1 with h1 | h1
      · have e : off + i * 2 = 0 := by omega
        rw [e] at p2
        rw [h.c1] at p2
        cases p2
      · have e : off + i * 2 = 1 := by omega
        rw [e, h.c1] at p1
        cases p1
    · rw [h.no _ hge] at p1; cases p1
  have e := hB b' (cell_lt p1) hne
  exact ⟨b', off, ha, (World.cell?_of_block e).trans p1, (World.cell?_of_block e).trans p2⟩
theorem Box.keep {w : World} {b : Nat} {x : Int} {sa : Option Addr} {sn sc : Nat} (h : Box w b x (.slice sa sn sc)) {a : Option Addr} {l : List Stp} (hc : CellsP w a l) {B : World} (hB : ∀ k, k < w.heap.size → k ≠ b → B.heap[k]? = w.heap[k]?) : CellsP B a l := fun i hi => by
  obtain ⟨b', off, v, ha, p1, ⟨a2, c2, rfl, hk, hm⟩, p2⟩ := hc i hi
  have hne : b' ≠ b := by
    rintro rfl
    rcases Nat.lt_or_ge (off + i * 2) 2 with hlt | hge
    · rcases Nat.lt_or_ge (off + i * 2) 1 with h1 | h1
      · have e : off + i * 2 = 0 := by omega
        rw [e, h.c0] at p1
        cases p1
      · rw [h.no (off + i * 2 + 1) (by omega)] at p2; cases p2
    · rw [h.no _ hge] at p1; cases p1
  have e := hB b' (cell_lt p1) hne
  exact ⟨b', off, _, ha, (World.cell?_of_block e).trans p1, ⟨a2, c2, rfl, h.keepK hk hB, hm⟩, (World.cell?_of_block e).trans p2⟩
theorem set2_block (w : World) (b : Nat) (u v : Value) : ∀ k, k < w.heap.size → k ≠ b → ((w.setCell ⟨b, 0, none⟩ u).setCell ⟨b, 1, none⟩ v).heap[k]? = w.heap[k]? := fun _k _ hk =>
  (Below.heap_setCell _ _ _ _ (fun e => hk e)).trans (Below.heap_setCell _ _ _ _ (fun e => hk e))
theorem Box.other {w : World} {b c : Nat} {x : Int} {v : Value} (h : Box w c x v) (hne : c ≠ b) (u t : Value) : Box ((w.setCell ⟨b, 0, none⟩ u).setCell ⟨b, 1, none⟩ t) c x v := by
  have e := set2_block w b u t c (cell_lt h.c0) hne
  exact ⟨(World.cell?_of_block e).trans h.c0, (World.cell?_of_block e).trans h.c1, (World.frozen?_of_block e).trans h.f0, (World.frozen?_of_block e).trans h.f1, fun o ho => (World.cell?_of_block e).trans (h.no o ho)⟩
end Go.Proofs.YtnhbogmihnnpjaaGreat
