/- What is kept: the laws by which the walks of the iterators carry their facts on. -/
import Derived.Test.YtfigooilhnahfaaAround
import Derived.Test.YtfigooilhnahfaaOwn
import Derived.Test.YtfigooilhnahfaaWaveS
namespace Go.Proofs.Ytfigooilhnahfaa
open Go.RowKit

theorem Kept.mono {X Y : Nat → Prop} {n : Nat} {A B : World} (h : Kept X n A B) (hxy : ∀ k, Y k → X k) : Kept Y n A B := ⟨h.1, fun k o hk => h.2 k o (hxy k hk)⟩
theorem Kept.block {X : Nat → Prop} {n k : Nat} {A B : World} (h : Kept X n A B) (hk : X k) {o : Obj} (ho : A.heap[k]? = some o) (hr : isRec o = false ∨ n ≤ k) : B.heap[k]? = some o := h.2 k o hk ho hr
theorem Kept.frozen {X : Nat → Prop} {n : Nat} {A B : World} (h : Kept X n A B) {p : Addr} {v : Value} (hk : X p.block) (hc : A.cell? p = some v) : B.frozen? p = A.frozen? p := by
  have hlt := cell_lt hc
  obtain ⟨o, ho⟩ : ∃ o, A.heap[p.block]? = some o := ⟨_, Array.getElem?_eq_getElem hlt⟩
  have hr : isRec o = false := by
    cases o <;> simp [World.cell?, ho] at hc <;> rfl
  exact World.frozen?_of_block (w := A) ((h.2 _ _ hk ho (.inl hr)).trans ho.symm)

/-- the array of the cells seen -/
def SeenAt (w : World) (sb : Nat) (S : List Pt) : Prop :=
  ∀ q : Pt, InG q → w.cell? ⟨sb, q.1.toNat * 64 + q.2.toNat, none⟩ = some (.bool (decide (q ∈ S))) ∧ w.frozen? ⟨sb, q.1.toNat * 64 + q.2.toNat, none⟩ = false
theorem SeenAt.kept {X : Nat → Prop} {n sb : Nat} {A B : World} {S : List Pt} (hs : SeenAt A sb S) (h : Kept X n A B) (hk : X sb) : SeenAt B sb S := fun q hq =>
  ⟨h.cell (p := ⟨sb, _, none⟩) hk (hs q hq).1, (h.frozen (p := ⟨sb, _, none⟩) hk (hs q hq).1).trans (hs q hq).2⟩
theorem SeenAt.ext {sb : Nat} {A B : World} {S : List Pt} (hs : SeenAt A sb S) (h : Ext A B) : SeenAt B sb S := hs.kept (Kept.ext h (fun _ => True) 0) trivial
theorem SeenAt.set {sb : Nat} {A : World} {S : List Pt} (hs : SeenAt A sb S) {p : Pt} (hp : InG p) : SeenAt (A.setCell ⟨sb, p.1.toNat * 64 + p.2.toNat, none⟩ (.bool true)) sb (p :: S) := fun q hq => by
  refine ⟨?_, by rw [World.frozen?_setCell]; exact (hs q hq).2⟩
  by_cases e : q = p
  · subst e
    rw [World.cell?_setCell_same A _ _ (hs q hq).1]
    simp
  · rw [World.cell?_setCell_other A _ _ _ (by
      intro h
      simp only [Addr.mk.injEq, true_and, and_true] at h
      exact e (idx_inj hp hq h).symm), (hs q hq).1]
    simp [e]
theorem SeenAt.drew {sb : Nat} {A : World} {S : List Pt} (hs : SeenAt A sb S) : SeenAt A.drew sb S := hs.ext (Ext.refl _).drew

def flat (l : List Pt) : List Value := l.flatMap fun p => [.int .i64 p.1, .int .i64 p.2]
theorem flat_append (l m : List Pt) : flat (l ++ m) = flat l ++ flat m := by simp [flat]
theorem flat_length (l : List Pt) : (flat l).length = l.length * 2 := by
  induction l with
  | nil => rfl
  | cons a l ih => simp only [flat, List.flatMap_cons, List.length_append, List.length_cons, List.length_nil] at *; omega
theorem flat_get (l : List Pt) (i : Nat) (h : i < l.length) : (flat l)[i * 2]? = some (.int .i64 (pt l i).1) ∧ (flat l)[i * 2 + 1]? = some (.int .i64 (pt l i).2) := by
  induction l generalizing i with
  | nil => simp at h
  | cons a l ih =>
    cases i with
    | zero => simp [flat, pt]
    | succ i =>
      have := ih i (by simpa using h)
      rw [show (i + 1) * 2 = i * 2 + 2 from by omega]
      simpa [flat, pt] using this

/-- the slice value v owns the places N -/
def Owns (w : World) (v : Value) (N : List Pt) : Prop := w.ownsRow 0 26 2 v N.length (flat N)
theorem Owns.nil (w : World) : Owns w (.slice none 0 0) [] := World.ownsRow_nil w 0 _ _
theorem Owns.kept {X : Nat → Prop} {n : Nat} {A B : World} {v : Value} {N : List Pt} (ho : Owns A v N) (h : Kept X n A B) (hk : ∀ b, v.ownBlock = some b → X b) : Owns B v N := by
  obtain ⟨h1, h2⟩ := ho
  refine ⟨h1, ?_⟩
  rcases h2 with h2 | ⟨g, cap, cur, hv, hg, hh, r⟩
  · exact .inl h2
  · exact .inr ⟨g, cap, cur, hv, hg, h.2 g _ (hk g (by rw [hv]; rfl)) hh (.inl rfl), r⟩
theorem Owns.ext {A B : World} {v : Value} {N : List Pt} (ho : Owns A v N) (h : Ext A B) : Owns B v N := ho.kept (Kept.ext h (fun _ => True) 0) (fun _ _ => trivial)
theorem Owns.lt {A : World} {v : Value} {N : List Pt} (ho : Owns A v N) {b : Nat} (hb : v.ownBlock = some b) : b < A.heap.size := (World.ownsRow.lt ho b hb).2
/-- it reads as a slice of places -/
theorem Owns.reads {A : World} {v : Value} {N : List Pt} (ho : Owns A v N) : ∃ a cap, v = .slice a N.length cap ∧ Cells2 A a N ∧ (∀ b off, a = some ⟨b, off, none⟩ → v.ownBlock = some b) := by
  rcases ho.2 with ⟨hv, hn⟩ | ⟨g, cap, cur, hv, hg, hh, hnc, hm, hcs, ht⟩
  · have : N = [] := List.eq_nil_of_length_eq_zero hn
    subst this
    exact ⟨none, 0, hv, fun i hi => by simp at hi, fun b off h => by cases h⟩
  · refine ⟨some ⟨g, 0, none⟩, cap, hv, fun i hi => ?_, fun b off h => by cases h; rw [hv]; rfl⟩
    have hc := World.ownsRow.cells ho (g := g) (by rw [hv]; rfl)
    have h1 := flat_get N i hi
    have a1 := hc _ _ h1.1
    have a2 := hc _ _ h1.2
    rw [Addr.add_lit] at a1 a2
    exact ⟨g, 0, rfl, a1, a2⟩
theorem Marks.keptX {X : Nat → Prop} {n : Nat} {ds : List Deferred} {A B : World} (hm : Marks n ds A) (h : Kept X n A B) (hk : ∀ D, n ≤ D → A.heap[D]? = some (.deferred (some [])) → X D) : Marks n ds B :=
  hm.kept fun D hD ho => h.2 D _ (hk D hD ho) ho (.inr hD)
theorem Kept.setCell {X : Nat → Prop} {n : Nat} {A : World} (p : Addr) (v : Value) (hx : ¬ X p.block) : Kept X n A (A.setCell p v) :=
  ⟨by simp [World.setCell], fun k o hk ho _ => by
    rw [Below.heap_setCell _ _ _ _ (fun e => hx (e ▸ hk))]; exact ho⟩
theorem Kept.drew (X : Nat → Prop) (n : Nat) (A : World) : Kept X n A A.drew := Kept.ext (Ext.refl _).drew _ _
theorem Kept.grown {X : Nat → Prop} {n : Nat} {A B : World} {v v' : Value} (h : AppEnd A B v v') (hx : ∀ b, v.ownBlock = some b → ¬ X b) : Kept X n A B := by
  rcases h with ⟨_, _, hg⟩ | ⟨_, he⟩
  · exact ⟨hg.size, fun k o hk ho _ => by
      rw [hg.block k (Array.getElem?_eq_some_iff.1 ho).1 (fun e => hx k e.symm hk)]; exact ho⟩
  · exact Kept.ext he _ _
theorem AppEnd.below {n : Nat} {A B : World} {v v' : Value} (h : AppEnd A B v v') (hn : n ≤ A.heap.size) (hv : ∀ b, v.ownBlock = some b → n ≤ b) : Below n A B := by
  rcases h with ⟨_, _, hg⟩ | ⟨_, he⟩
  · exact (Below.refl _ _).grown hg hn hv
  · exact he.mono hn

theorem Kept.keep {X : Nat → Prop} {n : Nat} {w A B : World} (h : Kept X n w A) (k : Keep w.heap.size A B) : Kept X n w B :=
  ⟨Nat.le_trans h.1 k.1.size, fun i o hx hi hr => by
    have ha := h.2 i o hx hi hr
    rw [k.1.block i (Array.getElem?_eq_some_iff.1 hi).1]; exact ha⟩
theorem Kept.ext' {X : Nat → Prop} {n : Nat} {w A B : World} (h : Kept X n w A) (k : Ext A B) : Kept X n w B := h.trans (Kept.ext k _ _)
theorem Owns.keep {m : Nat} {A B : World} {v : Value} {N : List Pt} (ho : Owns A v N) (h : Keep m A B) : Owns B v N := by
  obtain ⟨h1, h2⟩ := ho
  refine ⟨h1, ?_⟩
  rcases h2 with h2 | ⟨g, cap, cur, hv, hg, hh, r⟩
  · exact .inl h2
  · exact .inr ⟨g, cap, cur, hv, hg, h.2 g _ hh rfl, r⟩
theorem SeenAt.below {m sb : Nat} {A B : World} {S : List Pt} (hs : SeenAt A sb S) (h : Below m A B) (hm : sb < m) : SeenAt B sb S := fun q hq =>
  ⟨(h.cell (p := ⟨sb, _, none⟩) hm).trans (hs q hq).1, (h.frozen (p := ⟨sb, _, none⟩) hm).trans (hs q hq).2⟩

theorem Keep.cell {m : Nat} {A B : World} (h : Keep m A B) {p : Addr} {v : Value} (hc : A.cell? p = some v) : B.cell? p = some v := by
  have hlt := cell_lt hc
  obtain ⟨o, ho⟩ : ∃ o, A.heap[p.block]? = some o := ⟨_, Array.getElem?_eq_getElem hlt⟩
  have hr : isRec o = false := by
    cases o <;> simp [World.cell?, ho] at hc <;> rfl
  exact (World.cell?_of_block (w := A) ((h.2 _ _ ho hr).trans ho.symm)).trans hc

/-- while the cells around one are looked at -/
structure WRng (n nb : Nat) (X : Nat → Prop) (S0 N0 : List Pt) (v0 : Value) (JJ : World → Prop) (w3 : World) (prq : List Pt) (W' : World) : Prop where
  j : JJ W'
  kp : Kept X n w3 W'
  sn : SeenAt W' n (addN S0 N0 prq).1
  nx : ∃ v, W'.cell? ⟨nb, 0, none⟩ = some v ∧ W'.frozen? ⟨nb, 0, none⟩ = false ∧ Owns W' v (addN S0 N0 prq).2 ∧ (v.ownBlock = v0.ownBlock ∨ ∃ b, v.ownBlock = some b ∧ w3.heap.size + 2 < b)
theorem WRng.ext {n nb : Nat} {X : Nat → Prop} {S0 N0 : List Pt} {v0 : Value} {JJ : World → Prop} {w3 : World} {prq : List Pt} {A B : World} (h : WRng n nb X S0 N0 v0 JJ w3 prq A)
    (hJ : ∀ A B, JJ A → Below n A B → JJ B) (hn : n < w3.heap.size) (k : Ext A B) : WRng n nb X S0 N0 v0 JJ w3 prq B := by
  obtain ⟨v, a, b, c, d⟩ := h.nx
  have hs := h.kp.1
  exact ⟨hJ _ _ h.j (k.mono (by omega)), h.kp.ext' k, h.sn.ext k, v, k.cell a, (Below.frozen k (p := ⟨nb, 0, none⟩) (cell_lt a)).trans b, c.ext k, d⟩
theorem WRng.keep {n nb : Nat} {X : Nat → Prop} {S0 N0 : List Pt} {v0 : Value} {JJ : World → Prop} {w3 : World} {prq : List Pt} {A B : World} (h : WRng n nb X S0 N0 v0 JJ w3 prq A)
    (hJ : ∀ A B, JJ A → Below n A B → JJ B) (hn : n < w3.heap.size) (hnb : nb < w3.heap.size) (k : Keep w3.heap.size A B) : WRng n nb X S0 N0 v0 JJ w3 prq B := by
  obtain ⟨v, a, b, c, d⟩ := h.nx
  exact ⟨hJ _ _ h.j (k.1.mono (by omega)), h.kp.keep k, h.sn.below k.1 hn, v, (k.1.cell (p := ⟨nb, 0, none⟩) hnb).trans a, (k.1.frozen (p := ⟨nb, 0, none⟩) hnb).trans b, c.keep k, d⟩

/-- of what is in A only the blocks k with B k may turn -/
def Chg (B : Nat → Prop) (A C : World) : Prop := A.heap.size ≤ C.heap.size ∧ ∀ k, k < A.heap.size → ¬ B k → C.heap[k]? = A.heap[k]?
theorem Chg.refl (B : Nat → Prop) (A : World) : Chg B A A := ⟨Nat.le_refl _, fun _ _ _ => rfl⟩
theorem Chg.trans {B : Nat → Prop} {A C D : World} (h : Chg B A C) (k : Chg B C D) : Chg B A D :=
  ⟨Nat.le_trans h.1 k.1, fun i hi hb => (k.2 i (Nat.lt_of_lt_of_le hi h.1) hb).trans (h.2 i hi hb)⟩
theorem Chg.ext {B : Nat → Prop} {A C : World} (h : Ext A C) : Chg B A C := ⟨h.size, fun k hk _ => Below.block h k hk⟩
theorem Chg.setCell {B : Nat → Prop} {A : World} (p : Addr) (v : Value) (hb : B p.block) : Chg B A (A.setCell p v) :=
  ⟨by simp [World.setCell], fun k _ hk => Below.heap_setCell _ _ _ _ (fun e => hk (e ▸ hb))⟩
theorem Chg.app {B : Nat → Prop} {A C : World} {v v' : Value} (h : AppEnd A C v v') (hb : ∀ b, v.ownBlock = some b → B b) : Chg B A C := by
  rcases h with ⟨_, _, hg⟩ | ⟨_, he⟩
  · exact ⟨hg.size, fun k hk hn => hg.block k hk (fun e => hn (hb k e.symm))⟩
  · exact Chg.ext he
theorem Chg.kept {B X : Nat → Prop} {n : Nat} {A C : World} (h : Chg B A C) (hx : ∀ k, X k → k < A.heap.size → ¬ B k) : Kept X n A C :=
  ⟨h.1, fun k o hk ho _ => by
    have hl := (Array.getElem?_eq_some_iff.1 ho).1
    rw [h.2 k hl (hx k hk hl)]; exact ho⟩
theorem Chg.others {B : Nat → Prop} {A C : World} (h : Chg B A C) (hb : ∀ k, B k → ∀ o, A.heap[k]? = some o → o.isCells = true) : KeepsOthers A C :=
  ⟨h.1, fun k o ho hc => by
    have hl := (Array.getElem?_eq_some_iff.1 ho).1
    rw [h.2 k hl (fun hk => by rw [hb k hk o ho] at hc; cases hc)]; exact ho⟩
theorem isCells_of_cell {A : World} {p : Addr} {v : Value} (h : A.cell? p = some v) {o : Obj} (ho : A.heap[p.block]? = some o) : o.isCells = true := by
  cases o <;> simp [World.cell?, ho] at h <;> rfl
theorem Owns.isCells {A : World} {v : Value} {N : List Pt} (h : Owns A v N) {b : Nat} (hb : v.ownBlock = some b) {o : Obj} (ho : A.heap[b]? = some o) : o.isCells = true := by
  rcases h.2 with ⟨hv, _⟩ | ⟨g, cap, cur, hv, _, hh, _⟩
  · rw [hv] at hb; cases hb
  · rw [hv] at hb; cases hb
    rw [hh] at ho; cases ho; rfl
theorem Below.chg {n : Nat} {B : Nat → Prop} {A C : World} (hs : C.os = A.os ∧ C.tape = A.tape ∧ C.output = A.output) (h : Chg B A C) (hb : ∀ k, B k → n ≤ k) (hn : n ≤ A.heap.size) : Below n A C :=
  ⟨hs.1, hs.2.1, hs.2.2, h.1, fun k hk => h.2 k (by omega) (fun hB => by have := hb k hB; omega)⟩
theorem cell_two_new (w : World) (a b : Value) (t : TypeId) : ∀ j u, ([a, b] : List Value)[j]? = some u → (w.alloc (.cells #[a, b] t)).cell? ((⟨w.heap.size, 0, none⟩ : Addr).add j) = some u := by
  intro j u h
  match j, h with
  | 0, h => simp at h; subst h; rw [Addr.add_lit, World.cell?_alloc_new]; rfl
  | 1, h => simp at h; subst h; rw [Addr.add_lit, World.cell?_alloc_new]; rfl
theorem owns_succ {w : World} {v : Value} {N : List Pt} {q : Pt} (h : w.ownsRow 0 26 2 v (N.length + 1) (flat N ++ [.int .i64 q.1, .int .i64 q.2])) : Owns w v (N ++ [q]) := by
  unfold Owns
  rw [List.length_append, List.length_singleton, flat_append]
  exact h
end Go.Proofs.Ytfigooilhnahfaa
