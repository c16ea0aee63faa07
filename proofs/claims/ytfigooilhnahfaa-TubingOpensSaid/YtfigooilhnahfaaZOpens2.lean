/- Steps of the proof: Kept, Round, WaveR, Wave, DistS, DistR, Dist, Len, LawFn, Law, WayS. No conditions. -/
import Derived.Deep.QuietTactic
import Derived.BigQuiet
import Derived.StillTailTactics
import Derived.Laws.ResultCell
import Derived.Test.YtfigooilhnahfaaZOpens1
/- What is kept: the laws by which the walks of the iterators carry their facts on. -/
namespace Go.Proofs.Ytfigooilhnahfaa
open Go.RowKit

theorem Kept.mono {X Y : Nat → Prop} {n : Nat} {A B : World} (h : Kept X n A B) (hxy : ∀ k, Y k → X k) : Kept Y n A B := ⟨h.1, fun k o hk => h.2 k o (hxy k hk)⟩
theorem Kept.block {X : Nat → Prop} {n k : Nat} {A B : World} (h : Kept X n A B) (hk : X k) {o : Obj} (ho : A.heap[k]? = some o) (hr : isRec o = false ∨ n ≤ k) : B.heap[k]? = some o := h.2 k o hk ho hr
theorem Kept.frozen {X : Nat → Prop} {n : Nat} {A B : World} (h : Kept X n A B) {p : Addr} {v : Value} (hk : X p.block) (hc : A.cell? p = some v) : B.frozen? p = A.frozen? p := by
  have hlt := cell_lt hc
  obtain ⟨o, ho⟩ : ∃ o, A.heap[p.block]? = some o := ⟨_, Array.getElem?_eq_getElem hlt⟩
  have hr : isRec o = false := by
    cases o <;> simp [World.cell?, ho] at hc <;> rfl
  exact World.frozen?_of_block (w := A) ((h.2 _ _ hk ho (.inl hr)).trans ho.symm)

/-- the array of the cells seen -/
def SeenAt (w : World) (sb : Nat) (S : List Pt) : Prop :=
  ∀ q : Pt, InG q → w.cell? ⟨sb, q.1.toNat * 64 + q.2.toNat, none⟩ = some (.bool (decide (q ∈ S))) ∧ w.frozen? ⟨sb, q.1.toNat * 64 + q.2.toNat, none⟩ = false
theorem SeenAt.kept {X : Nat → Prop} {n sb : Nat} {A B : World} {S : List Pt} (hs : SeenAt A sb S) (h : Kept X n A B) (hk : X sb) : SeenAt B sb S := fun q hq =>
  ⟨h.cell (p := ⟨sb, _, none⟩) hk (hs q hq).1, (h.frozen (p := ⟨sb, _, none⟩) hk (hs q hq).1).trans (hs q hq).2⟩
theorem SeenAt.ext {sb : Nat} {A B : World} {S : List Pt} (hs : SeenAt A sb S) (h : Ext A B) : SeenAt B sb S := hs.kept (Kept.ext h (fun _ => True) 0) trivial
theorem SeenAt.set {sb : Nat} {A : World} {S : List Pt} (hs : SeenAt A sb S) {p : Pt} (hp : InG p) : SeenAt (A.setCell ⟨sb, p.1.toNat * 64 + p.2.toNat, none⟩ (.bool true)) sb (p :: S) := fun q hq => by
  refine ⟨?_, by rw [World.frozen?_setCell]; exact (hs q hq).2⟩
  by_cases e : q = p
  · subst e
    rw [World.cell?_setCell_same A _ _ (hs q hq).1]
    simp
  · rw [World.cell?_setCell_other A _ _ _ (by
      intro h
      simp only [Addr.mk.injEq, true_and, and_true] at h
      exact e (idx_inj hp hq h).symm), (hs q hq).1]
    simp [e]
theorem SeenAt.drew {sb : Nat} {A : World} {S : List Pt} (hs : SeenAt A sb S) : SeenAt A.drew sb S := hs.ext (Ext.refl _).drew

def flat (l : List Pt) : List Value := l.flatMap fun p => [.int .i64 p.1, .int .i64 p.2]
theorem flat_append (l m : List Pt) : flat (l ++ m) = flat l ++ flat m := by simp [flat]
theorem flat_length (l : List Pt) : (flat l).length = l.length * 2 := by
  induction l with
  | nil => rfl
  | cons a l ih => simp only [flat, List.flatMap_cons, List.length_append, List.length_cons, List.length_nil] at *; omega
theorem flat_get (l : List Pt) (i : Nat) (h : i < l.length) : (flat l)[i * 2]? = some (.int .i64 (pt l i).1) ∧ (flat l)[i * 2 + 1]? = some (.int .i64 (pt l i).2) := by
  induction l generalizing i with
  | nil => simp at h
  | cons a l ih =>
    cases i with
    | zero => simp [flat, pt]
    | succ i =>
      have := ih i (by simpa using h)
      rw [show (i + 1) * 2 = i * 2 + 2 from by omega]
      simpa [flat, pt] using this

/-- the slice value v owns the places N -/
def Owns (w : World) (v : Value) (N : List Pt) : Prop := w.ownsRow 0 26 2 v N.length (flat N)
theorem Owns.nil (w : World) : Owns w (.slice none 0 0) [] := World.ownsRow_nil w 0 _ _
theorem Owns.kept {X : Nat → Prop} {n : Nat} {A B : World} {v : Value} {N : List Pt} (ho : Owns A v N) (h : Kept X n A B) (hk : ∀ b, v.ownBlock = some b → X b) : Owns B v N := by
  obtain ⟨h1, h2⟩ := ho
  refine ⟨h1, ?_⟩
  rcases h2 with h2 | ⟨g, cap, cur, hv, hg, hh, r⟩
  · exact .inl h2
  · exact .inr ⟨g, cap, cur, hv, hg, h.2 g _ (hk g (by rw [hv]; rfl)) hh (.inl rfl), r⟩
theorem Owns.ext {A B : World} {v : Value} {N : List Pt} (ho : Owns A v N) (h : Ext A B) : Owns B v N := ho.kept (Kept.ext h (fun _ => True) 0) (fun _ _ => trivial)
theorem Owns.lt {A : World} {v : Value} {N : List Pt} (ho : Owns A v N) {b : Nat} (hb : v.ownBlock = some b) : b < A.heap.size := (World.ownsRow.lt ho b hb).2
/-- it reads as a slice of places -/
theorem Owns.reads {A : World} {v : Value} {N : List Pt} (ho : Owns A v N) : ∃ a cap, v = .slice a N.length cap ∧ Cells2 A a N ∧ (∀ b off, a = some ⟨b, off, none⟩ → v.ownBlock = some b) := by
  rcases ho.2 with ⟨hv, hn⟩ | ⟨g, cap, cur, hv, hg, hh, hnc, hm, hcs, ht⟩
  · have : N = [] := List.eq_nil_of_length_eq_zero hn
    subst this
    exact ⟨none, 0, hv, fun i hi => by simp at hi, fun b off h => by cases h⟩
  · refine ⟨some ⟨g, 0, none⟩, cap, hv, fun i hi => ?_, fun b off h => by cases h; rw [hv]; rfl⟩
    have hc := World.ownsRow.cells ho (g := g) (by rw [hv]; rfl)
    have h1 := flat_get N i hi
    have a1 := hc _ _ h1.1
    have a2 := hc _ _ h1.2
    rw [Addr.add_lit] at a1 a2
    exact ⟨g, 0, rfl, a1, a2⟩
theorem Marks.keptX {X : Nat → Prop} {n : Nat} {ds : List Deferred} {A B : World} (hm : Marks n ds A) (h : Kept X n A B) (hk : ∀ D, n ≤ D → A.heap[D]? = some (.deferred (some [])) → X D) : Marks n ds B :=
  hm.kept fun D hD ho => h.2 D _ (hk D hD ho) ho (.inr hD)
theorem Kept.setCell {X : Nat → Prop} {n : Nat} {A : World} (p : Addr) (v : Value) (hx : ¬ X p.block) : Kept X n A (A.setCell p v) :=
  ⟨by simp [World.setCell], fun k o hk ho _ => by
    rw [Below.heap_setCell _ _ _ _ (fun e => hx (e ▸ hk))]; exact ho⟩
theorem Kept.drew (X : Nat → Prop) (n : Nat) (A : World) : Kept X n A A.drew := Kept.ext (Ext.refl _).drew _ _
theorem Kept.grown {X : Nat → Prop} {n : Nat} {A B : World} {v v' : Value} (h : AppEnd A B v v') (hx : ∀ b, v.ownBlock = some b → ¬ X b) : Kept X n A B := by
  rcases h with ⟨_, _, hg⟩ | ⟨_, he⟩
  · exact ⟨hg.size, fun k o hk ho _ => by
      rw [hg.block k (Array.getElem?_eq_some_iff.1 ho).1 (fun e => hx k e.symm hk)]; exact ho⟩
  · exact Kept.ext he _ _
theorem AppEnd.below {n : Nat} {A B : World} {v v' : Value} (h : AppEnd A B v v') (hn : n ≤ A.heap.size) (hv : ∀ b, v.ownBlock = some b → n ≤ b) : Below n A B := by
  rcases h with ⟨_, _, hg⟩ | ⟨_, he⟩
  · exact (Below.refl _ _).grown hg hn hv
  · exact he.mono hn

theorem Kept.keep {X : Nat → Prop} {n : Nat} {w A B : World} (h : Kept X n w A) (k : Keep w.heap.size A B) : Kept X n w B :=
  ⟨Nat.le_trans h.1 k.1.size, fun i o hx hi hr => by
    have ha := h.2 i o hx hi hr
    rw [k.1.block i (Array.getElem?_eq_some_iff.1 hi).1]; exact ha⟩
theorem Kept.ext' {X : Nat → Prop} {n : Nat} {w A B : World} (h : Kept X n w A) (k : Ext A B) : Kept X n w B := h.trans (Kept.ext k _ _)
theorem Owns.keep {m : Nat} {A B : World} {v : Value} {N : List Pt} (ho : Owns A v N) (h : Keep m A B) : Owns B v N := by
  obtain ⟨h1, h2⟩ := ho
  refine ⟨h1, ?_⟩
  rcases h2 with h2 | ⟨g, cap, cur, hv, hg, hh, r⟩
  · exact .inl h2
  · exact .inr ⟨g, cap, cur, hv, hg, h.2 g _ hh rfl, r⟩
theorem SeenAt.below {m sb : Nat} {A B : World} {S : List Pt} (hs : SeenAt A sb S) (h : Below m A B) (hm : sb < m) : SeenAt B sb S := fun q hq =>
  ⟨(h.cell (p := ⟨sb, _, none⟩) hm).trans (hs q hq).1, (h.frozen (p := ⟨sb, _, none⟩) hm).trans (hs q hq).2⟩

theorem Keep.cell {m : Nat} {A B : World} (h : Keep m A B) {p : Addr} {v : Value} (hc : A.cell? p = some v) : B.cell? p = some v := by
  have hlt := cell_lt hc
  obtain ⟨o, ho⟩ : ∃ o, A.heap[p.block]? = some o := ⟨_, Array.getElem?_eq_getElem hlt⟩
  have hr : isRec o = false := by
    cases o <;> simp [World.cell?, ho] at hc <;> rfl
  exact (World.cell?_of_block (w := A) ((h.2 _ _ ho hr).trans ho.symm)).trans hc

/-- while the cells around one are looked at -/
structure WRng (n nb : Nat) (X : Nat → Prop) (S0 N0 : List Pt) (v0 : Value) (JJ : World → Prop) (w3 : World) (prq : List Pt) (W' : World) : Prop where
  j : JJ W'
  kp : Kept X n w3 W'
  sn : SeenAt W' n (addN S0 N0 prq).1
  nx : ∃ v, W'.cell? ⟨nb, 0, none⟩ = some v ∧ W'.frozen? ⟨nb, 0, none⟩ = false ∧ Owns W' v (addN S0 N0 prq).2 ∧ (v.ownBlock = v0.ownBlock ∨ ∃ b, v.ownBlock = some b ∧ w3.heap.size + 2 < b)
theorem WRng.ext {n nb : Nat} {X : Nat → Prop} {S0 N0 : List Pt} {v0 : Value} {JJ : World → Prop} {w3 : World} {prq : List Pt} {A B : World} (h : WRng n nb X S0 N0 v0 JJ w3 prq A)
    (hJ : ∀ A B, JJ A → Below n A B → JJ B) (hn : n < w3.heap.size) (k : Ext A B) : WRng n nb X S0 N0 v0 JJ w3 prq B := by
  obtain ⟨v, a, b, c, d⟩ := h.nx
  have hs := h.kp.1
  exact ⟨hJ _ _ h.j (k.mono (by omega)), h.kp.ext' k, h.sn.ext k, v, k.cell a, (Below.frozen k (p := ⟨nb, 0, none⟩) (cell_lt a)).trans b, c.ext k, d⟩
theorem WRng.keep {n nb : Nat} {X : Nat → Prop} {S0 N0 : List Pt} {v0 : Value} {JJ : World → Prop} {w3 : World} {prq : List Pt} {A B : World} (h : WRng n nb X S0 N0 v0 JJ w3 prq A)
    (hJ : ∀ A B, JJ A → Below n A B → JJ B) (hn : n < w3.heap.size) (hnb : nb < w3.heap.size) (k : Keep w3.heap.size A B) : WRng n nb X S0 N0 v0 JJ w3 prq B := by
  obtain ⟨v, a, b, c, d⟩ := h.nx
  exact ⟨hJ _ _ h.j (k.1.mono (by omega)), h.kp.keep k, h.sn.below k.1 hn, v, (k.1.cell (p := ⟨nb, 0, none⟩) hnb).trans a, (k.1.frozen (p := ⟨nb, 0, none⟩) hnb).trans b, c.keep k, d⟩

/-- of what is in A only the blocks k with B k may turn -/
def Chg (B : Nat → Prop) (A C : World) : Prop := A.heap.size ≤ C.heap.size ∧ ∀ k, k < A.heap.size → ¬ B k → C.heap[k]? = A.heap[k]?
theorem Chg.refl (B : Nat → Prop) (A : World) : Chg B A A := ⟨Nat.le_refl _, fun _ _ _ => rfl⟩
theorem Chg.trans {B : Nat → Prop} {A C D : World} (h : Chg B A C) (k : Chg B C D) : Chg B A D :=
  ⟨Nat.le_trans h.1 k.1, fun i hi hb => (k.2 i (Nat.lt_of_lt_of_le hi h.1) hb).trans (h.2 i hi hb)⟩
theorem Chg.ext {B : Nat → Prop} {A C : World} (h : Ext A C) : Chg B A C := ⟨h.size, fun k hk _ => Below.block h k hk⟩
theorem Chg.setCell {B : Nat → Prop} {A : World} (p : Addr) (v : Value) (hb : B p.block) : Chg B A (A.setCell p v) :=
  ⟨by simp [World.setCell], fun k _ hk => Below.heap_setCell _ _ _ _ (fun e => hk (e ▸ hb))⟩
theorem Chg.app {B : Nat → Prop} {A C : World} {v v' : Value} (h : AppEnd A C v v') (hb : ∀ b, v.ownBlock = some b → B b) : Chg B A C := by
  rcases h with ⟨_, _, hg⟩ | ⟨_, he⟩
  · exact ⟨hg.size, fun k hk hn => hg.block k hk (fun e => hn (hb k e.symm))⟩
  · exact Chg.ext he
theorem Chg.kept {B X : Nat → Prop} {n : Nat} {A C : World} (h : Chg B A C) (hx : ∀ k, X k → k < A.heap.size → ¬ B k) : Kept X n A C :=
  ⟨h.1, fun k o hk ho _ => by
    have hl := (Array.getElem?_eq_some_iff.1 ho).1
    rw [h.2 k hl (hx k hk hl)]; exact ho⟩
theorem Chg.others {B : Nat → Prop} {A C : World} (h : Chg B A C) (hb : ∀ k, B k → ∀ o, A.heap[k]? = some o → o.isCells = true) : KeepsOthers A C :=
  ⟨h.1, fun k o ho hc => by
    have hl := (Array.getElem?_eq_some_iff.1 ho).1
    rw [h.2 k hl (fun hk => by rw [hb k hk o ho] at hc; cases hc)]; exact ho⟩
theorem isCells_of_cell {A : World} {p : Addr} {v : Value} (h : A.cell? p = some v) {o : Obj} (ho : A.heap[p.block]? = some o) : o.isCells = true := by
  cases o <;> simp [World.cell?, ho] at h <;> rfl
theorem Owns.isCells {A : World} {v : Value} {N : List Pt} (h : Owns A v N) {b : Nat} (hb : v.ownBlock = some b) {o : Obj} (ho : A.heap[b]? = some o) : o.isCells = true := by
  rcases h.2 with ⟨hv, _⟩ | ⟨g, cap, cur, hv, _, hh, _⟩
  · rw [hv] at hb; cases hb
  · rw [hv] at hb; cases hb
    rw [hh] at ho; cases ho; rfl
theorem Below.chg {n : Nat} {B : Nat → Prop} {A C : World} (hs : C.os = A.os ∧ C.tape = A.tape ∧ C.output = A.output) (h : Chg B A C) (hb : ∀ k, B k → n ≤ k) (hn : n ≤ A.heap.size) : Below n A C :=
  ⟨hs.1, hs.2.1, hs.2.2, h.1, fun k hk => h.2 k (by omega) (fun hB => by have := hb k hB; omega)⟩
theorem cell_two_new (w : World) (a b : Value) (t : TypeId) : ∀ j u, ([a, b] : List Value)[j]? = some u → (w.alloc (.cells #[a, b] t)).cell? ((⟨w.heap.size, 0, none⟩ : Addr).add j) = some u := by
  intro j u h
  match j, h with
  | 0, h => simp at h; subst h; rw [Addr.add_lit, World.cell?_alloc_new]; rfl
  | 1, h => simp at h; subst h; rw [Addr.add_lit, World.cell?_alloc_new]; rfl
theorem owns_succ {w : World} {v : Value} {N : List Pt} {q : Pt} (h : w.ownsRow 0 26 2 v (N.length + 1) (flat N ++ [.int .i64 q.1, .int .i64 q.2])) : Owns w v (N ++ [q]) := by
  unfold Owns
  rw [List.length_append, List.length_singleton, flat_append]
  exact h
end Go.Proofs.Ytfigooilhnahfaa
/- Regions that draw their order, within a round of a loop over a function: they go as everywhere. -/
namespace Go.Proofs.Ytfigooilhnahfaa
open Go.RowKit

/-- no operation is a defer statement -/
def noDefer (ops : Array Oper) : Bool := ops.all fun o => match o.op with | .defer _ => false | _ => true

section
variable {P : Program} {ops : Array Oper} {Q : Exit → Act → World → Prop} {md : Region.Mode} {l n : Nat}

theorem oper_round {o : Oper} {a : Act} {w : World} {K K' : Act → World → Prop} (hd : ∀ c, o.op ≠ .defer c) (_hQ : ¬ LetsOut Q) (hK : ∀ a w, K a w → K' a w) (h : o.wp P a w K Q) :
    o.wpIn (Fence.wide.inRound l) n P a w K' Q := by
  unfold Oper.wpIn
  refine ⟨fun _ _ => trivial, ?_⟩
  rw [Oper.semAt_plain (Fence.wide.inRound l) a.eval o hd]
  unfold Oper.wp at h
  generalize (execOp a.eval o).run P w = r at h ⊢
  cases r with
  | ok x w' =>
    cases x with
    | value v => exact hK _ _ h
    | skip => exact hK _ _ h
    | defer d => exact hK _ _ h
    | enter f args =>
      refine ⟨fun e => (by cases e), CallsIn.inRound l (callsIn_wide.2 (Calls.mono h fun e w'' he => ?_))⟩
      cases e with
      | returned v => exact hK _ _ he
      | panicked c => exact he
      | outgrown => exact he
    | row row args =>
      refine ⟨fun e => (by cases e), ?_⟩
      intro c cs _
      obtain ⟨v, w'', hv, hs⟩ := h c cs
      exact ⟨v, w'', hK _ _ hv, stepsIn_wide.2 hs⟩
    | _ => exact h.elim
  | halt x w' =>
    cases x with
    | panic v => exact h
    | _ => exact h.elim

theorem any_round (hd : noDefer ops = true) (hQ : ¬ LetsOut Q) : ∀ (fuel : Nat) (listed : Array Bool) (a : Act) (w : World), wpAny P md ops Q fuel listed a w → wpAnyIn (Fence.wide.inRound l) n P md ops Q fuel listed a w
  | 0, _, _, _, h => h
  | fuel + 1, listed, a, w, h => by
    refine ⟨h.1, fun i hi => ?_⟩
    have hi' := h.2 i hi
    unfold wpOp at hi'
    unfold wpOpIn
    cases ho : ops[i]? with
    | none => rw [ho] at hi'; exact any_round hd hQ fuel _ a w hi'
    | some o =>
      rw [ho] at hi'
      have hdo : ∀ c, o.op ≠ .defer c := fun c e => by
        have hm := Array.all_eq_true'.1 hd o (Array.mem_of_getElem? ho)
        rw [e] at hm
        cases hm
      dsimp only at hi' ⊢
      split
      · rename_i hw
        rw [if_pos hw] at hi'
        rcases hi' with hi' | ⟨_, hi'⟩
        · exact oper_round hdo hQ (fun a w => any_round hd hQ fuel _ a w) hi'
        · exact absurd hi' hQ
      · rename_i hw
        rw [if_neg hw] at hi'
        exact ⟨fun _ _ => trivial, any_round hd hQ fuel _ _ w hi'⟩

/-- only reads: one walk in the text's order -/
theorem round_quiet {id : Nat} {a : Act} {w : World} {ol : List Oper} (hm : P.follows .mixedOrders = true) (hB : Region.lexB .any ol.toArray = true) (hd : noDefer ol.toArray = true) (hQ : ¬ LetsOut Q)
    (h : wpQuiet P ol.toArray (fun w' => ∃ n, w' = w.drewN n) (fun a' => ∀ w', (∃ n, w' = w.drewN n) → Q .normal a' w') ol a) : (Code.region id ol.toArray true).wpIn (Fence.wide.inRound l) n P Q a w := by
  simp only [Region.lexB, Bool.and_eq_true] at hB
  refine wpIn_region_any hm (any_round hd hQ _ _ _ _ ?_)
  refine wpAny_of_quiet (C := fun w' => ∃ n, w' = w.drewN n) (Q := fun a' => ∀ w', (∃ n, w' = w.drewN n) → Q .normal a' w') (fun _ w' hw' h => h w' hw') _ _ _ _ ⟨1, rfl⟩ ?_
  have := wpAnyQ_lex (C := fun w' => ∃ n, w' = w.drewN n) (md := .any) hB.1 ol 0 (Array.replicate ol.toArray.size false) a (fun j => by simp) (by simpa using hB.2) h
  simpa using this

/-- reads, and then a store or the like -/
theorem round_tail {id : Nat} {a : Act} {w : World} {ol : List Oper} (k : Nat) (hm : P.follows .mixedOrders = true) (hB : Region.lexTailB .any ol.toArray k = true) (hd : noDefer ol.toArray = true) (hQ : ¬ LetsOut Q)
    (h : wpStill P ol.toArray w.drew (fun a' => wpList P ol.toArray Q (ol.drop k) a' w.drew) (ol.take k) a) : (Code.region id ol.toArray true).wpIn (Fence.wide.inRound l) n P Q a w := by
  refine wpIn_region_any hm (any_round hd hQ _ _ _ _ ?_)
  simp only [Region.lexTailB, Bool.and_eq_true, decide_eq_true_eq] at hB
  obtain ⟨⟨⟨⟨b1, b2⟩, b3⟩, b4⟩, b5⟩ := hB
  have hlen : ol.toArray.size = ol.length := by simp
  have e1 : (ol.take k).length = k := by rw [List.length_take]; omega
  have e2 : (ol.drop k).length = ol.toArray.size - k := by rw [List.length_drop, hlen]
  have inv : HeadInv .any ol.toArray k (Array.replicate ol.toArray.size false) := by
    refine ⟨by simp, ?_, ?_⟩
    · intro j oj _ hl
      rw [getD_replicate_false] at hl
      cases hl
    · intro t _ ht
      exact getD_in (by simpa using ht) (getD_replicate_false _ _)
  have key := wpAnyL_lex (md := .any) (g := ol.toArray.size - k) b1 b3 b4 b2 (ol.take k) 0 _ a (fun j hj => by
    have : j < k := by omega
    simp [this]) (by omega) inv (by rw [e1]; exact b5) h
  have fin := wpAny_of_head (Q' := Q) (g := ol.toArray.size - k) (fun listed a' hL => by
    have hs := wpAny_of_seq (md := .any) (Q' := Q) (ol.drop k) k listed a' w.drew (fun j => by simp [List.getElem?_drop]) (by rw [e2]; exact hL.1) hL.2
    rwa [e2] at hs) _ _ _ key
  rw [e1, show k + (ol.toArray.size - k) = ol.toArray.size by omega] at fin
  exact fin
end
end Go.Proofs.Ytfigooilhnahfaa
/- The waves: the loop over the cells around one. -/
namespace Go.Proofs.Ytfigooilhnahfaa
open Go.RowKit
attribute [local go_sem] Oper.semAt_some

def inWave (n nb : Nat) (v0 : Value) (k : Nat) : Prop := k = n ∨ k = nb ∨ v0.ownBlock = some k

theorem infoPl : (Try.prog.info? 26).map (fun i => (i.zero, i.size, i.bytes)) = some (some (.agg #[.int .i64 0, .int .i64 0]), 2, 16) := by kernel_rfl

set_option maxHeartbeats 4000000 in
set_option maxRecDepth 100000 in
theorem wave1_range (cas cbd : Code) (hcode : rngOf (Try.f78.body.getD .skip) = [(cas, cbd)]) (g : Gr) (x : Pt) (ga : Option Addr) (gc : Nat) (w3 : World) (pb gb n nb : Nat) (X : Nat → Prop) (S0 N0 : List Pt) (v0 : Value) (JJ : World → Prop)
    (hr : Right g) (hx : inside g x = true) (hwi : WI g S0 N0) (hN0 : N0.length ≤ 4096)
    (p1 : w3.cell? ⟨pb, 0, none⟩ = some (.int .i64 x.1)) (p2 : w3.cell? ⟨pb, 1, none⟩ = some (.int .i64 x.2))
    (g1 : w3.cell? ⟨gb, 0, none⟩ = some (.int .i64 g.rows)) (g2 : w3.cell? ⟨gb, 1, none⟩ = some (.int .i64 g.cols)) (g3 : w3.cell? ⟨gb, 2, none⟩ = some (.slice ga g.bl.length gc))
    (hc : Cells2 w3 ga g.bl) (m1 : ¬ inWave n nb v0 pb) (m2 : ¬ inWave n nb v0 gb) (m3 : g.bl ≠ [] → ∀ b off, ga = some ⟨b, off, none⟩ → ¬ inWave n nb v0 b)
    (hX : ∀ k, X k → ¬ inWave n nb v0 k) (hJ : ∀ A B, JJ A → Below n A B → JJ B) (hn : n < nb) (hnb : nb < w3.heap.size) (hv : ∀ b, v0.ownBlock = some b → nb < b ∧ b < w3.heap.size)
    (j0 : JJ w3) (s0 : SeenAt w3 n S0) (n1 : w3.cell? ⟨nb, 0, none⟩ = some v0) (n2 : w3.frozen? ⟨nb, 0, none⟩ = false) (n3 : Owns w3 v0 N0)
    (u0 u1 u2 u3 u5 u6 u8 u9 u10 u11 u12 u13 u14 u15 u16 u17 u18 u19 u20 u21 u22 u23 u24 u25 u26 u27 u28 u29 u30 u31 u32 u33 u34 u35 u36 u38 u39 u40 u41 u42 u43 u44 u45 u46 u47 u48 u49 u50 u51 u52 u53 u54 u55 u56 u57 u58 : Value) (ds : List Deferred) (Q : Exit → Act → World → Prop)
    (hdone : ∀ (D : Nat) (W : World), w3.heap.size ≤ D → D < W.heap.size → WRng n nb X S0 N0 v0 JJ w3 (near g x) W → W.heap[D]? = some (.deferred (some [])) → Q .normal { tmps := #[u0, u1, u2, u3, .pointer (some ⟨n, 0, none⟩), u5, u6, .pointer (some ⟨nb, 0, none⟩), u8, u9, u10, u11, u12, u13, u14, u15, u16, u17, u18, u19, u20, u21, u22, u23, u24, u25, u26, u27, u28, u29, u30, u31, u32, u33, u34, u35, u36, .func (.func 82) #[] #[.pointer (some ⟨pb, 0, none⟩), .pointer (some ⟨gb, 0, none⟩)], u38, u39, u40, u41, u42, u43, u44, u45, u46, u47, u48, u49, u50, u51, u52, u53, u54, u55, u56, u57, u58], defers := mark D :: ds } W) :
    (Code.rangeFunc (.tmp 37) #[38] cas cbd).wp Try.prog Q { tmps := #[u0, u1, u2, u3, .pointer (some ⟨n, 0, none⟩), u5, u6, .pointer (some ⟨nb, 0, none⟩), u8, u9, u10, u11, u12, u13, u14, u15, u16, u17, u18, u19, u20, u21, u22, u23, u24, u25, u26, u27, u28, u29, u30, u31, u32, u33, u34, u35, u36, .func (.func 82) #[] #[.pointer (some ⟨pb, 0, none⟩), .pointer (some ⟨gb, 0, none⟩)], u38, u39, u40, u41, u42, u43, u44, u45, u46, u47, u48, u49, u50, u51, u52, u53, u54, u55, u56, u57, u58], defers := ds } w3 := by
  have HC := Lib.hid hcode
  have HR := Lib.hid hr
  refine wp_range (n := 0) (gf := 82) (lb := #[.pointer (some ⟨pb, 0, none⟩), .pointer (some ⟨gb, 0, none⟩)]) rfl (enters_of Try.func82 (by kernel_rfl) rfl)
    (around1_iter g x ga gc w3 pb gb (inWave n nb v0) hr hx p1 p2 g1 g2 g3 hc m1 m2 m3) (fun q => rfl)
    (fun A B h k o hk ho => by rw [Below.block h k (Array.getElem?_eq_some_iff.1 ho).1]; exact ho)
    (WRng n nb X S0 N0 v0 JJ w3) (fun _ _ _ => False)
    (fun pre A B h k => h.ext hJ (by omega) k) (fun _ _ _ _ h _ => h.elim)
    (fun pre A B h k => h.keep hJ (by omega) hnb k) (fun _ _ _ _ h _ => h.elim)
    ⟨j0, Kept.refl _ _ _, s0, v0, n1, n2, n3, .inl rfl⟩
    (fun (q : Pt) a' W => ∃ qb, w3.heap.size + 2 < qb ∧ W.cell? ⟨qb, 0, none⟩ = some (.int .i64 q.1) ∧ W.cell? ⟨qb, 1, none⟩ = some (.int .i64 q.2) ∧ a' = { tmps := #[u0, u1, u2, u3, .pointer (some ⟨n, 0, none⟩), u5, u6, .pointer (some ⟨nb, 0, none⟩), u8, u9, .pointer (some ⟨qb, 0, none⟩), u11, u12, u13, u14, u15, u16, u17, u18, u19, u20, u21, u22, u23, u24, u25, u26, u27, u28, u29, u30, u31, u32, u33, u34, u35, u36, .func (.func 82) #[] #[.pointer (some ⟨pb, 0, none⟩), .pointer (some ⟨gb, 0, none⟩)], .agg #[.int .i64 q.1, .int .i64 q.2], u39, u40, u41, u42, u43, u44, u45, u46, u47, u48, u49, u50, u51, u52, u53, u54, u55, u56, u57, u58], defers := [] })
    ?hax ?assign ?body (fun pre A B h k => h.ext hJ (by omega) k) ?done (fun _ _ _ _ _ _ _ h _ => h.elim)
  case hax =>
    rintro q a' A B ⟨qb, h1, h2, h3, h4⟩ hk
    exact ⟨qb, h1, hk.cell h2, hk.cell h3, h4⟩
  case assign =>
    simp only [Try.f78, rngOf, Option.getD, List.nil_append, List.append_nil] at hcode
    cases hcode
    intro l pre q W K hm hI hK
    clear HC
    gi_wp2
    exact hK _ _ ((Ext.refl _).alloc _) ⟨W.heap.size, by omega, by go_simp, by go_simp, rfl⟩
  case body =>
    simp only [Try.f78, rngOf, Option.getD, List.nil_append, List.append_nil] at hcode
    cases hcode
    rintro l pre q a' W hpre hm hI ⟨qb, hqb, q1, q2, rfl⟩
    have hqn : q ∈ near g x := hpre.subset (by simp)
    have hqi : inside g q = true := near_inside hqn
    obtain ⟨r1, r2, r3, r4⟩ := inG_of HR.out hqi
    have hsn := addN_snoc S0 N0 pre q
    have hwp := addN_inv pre S0 N0 hwi (fun y hy => near_inside (hpre.subset (by simp [hy])))
    have HQ := Lib.hid hqi
    have HS := Lib.hid hsn
    have HI := Lib.hid hI
    have HW := Lib.hid hwp
    have HQN := Lib.hid hqn
    have HJ := Lib.hid hJ
    have HXX := Lib.hid hX
    have HV := Lib.hid hv
    have hDW : n < W.heap.size := by omega
    have c1 := (hI.sn q ⟨r1, r2, r3, r4⟩).1
    have c2 := (hI.sn q ⟨r1, r2, r3, r4⟩).2
    clear HC hqn hqi hsn hI hwp hX hJ hv m1 m2 m3 hc s0 n3 j0 p1 p2 g1 g2 g3 n1 n2
    by_cases hmem : q ∈ (addN S0 N0 pre).1
    · rw [show decide (q ∈ (addN S0 N0 pre).1) = true from by simpa using hmem] at c1
      have HM := Lib.hid hmem
      clear hmem
      gi_wp2
      refine round_quiet (by kernel_rfl) (by kernel_rfl) (by kernel_rfl) (fun ⟨_, _, h⟩ => h) ?_
      repeat (go_big_quiet_step (fail))
      refine wpQuiet_nil ?_
      rintro _ ⟨nq, rfl⟩
      gi_wp2
      have hd : Ext W (W.drewN nq) := (Ext.refl _).drewN _
      refine ⟨Kept.ext hd _ _, (Chg.others (Chg.ext (B := fun _ => False) hd) (fun _ h => h.elim)).from _, ?_⟩
      have := HI.out.ext HJ.out (by omega) hd
      have e : addN S0 N0 (pre ++ [q]) = addN S0 N0 pre := by rw [HS.out, if_pos HM.out]
      exact ⟨this.j, this.kp, by rw [e]; exact this.sn, by rw [e]; exact this.nx⟩
    · rw [show decide (q ∈ (addN S0 N0 pre).1) = false from by simpa using hmem] at c1
      have HM := Lib.hid hmem
      clear hmem
      gi_wp2
      refine round_quiet (by kernel_rfl) (by kernel_rfl) (by kernel_rfl) (fun ⟨_, _, h⟩ => h) ?_
      repeat (go_big_quiet_step (fail))
      refine wpQuiet_nil ?_
      rintro _ ⟨nq, rfl⟩
      gi_wp2
      refine round_tail 6 (by kernel_rfl) (by kernel_rfl) (by kernel_rfl) (fun ⟨_, _, h⟩ => h) ?_
      simp only [List.take_succ_cons, List.take_zero, List.drop_succ_cons, List.drop_zero]
      repeat still_step
      refine wpStill_nil ?_
      go_wp2
      obtain ⟨v, a1, a2, a3, a4⟩ := HI.out.nx
      have hvb : Hid (∀ b, v.ownBlock = some b → nb < b ∧ (v0.ownBlock = some b ∨ w3.heap.size + 2 < b)) := by
        intro b hb
        rcases a4 with a4 | ⟨c, a4, a5⟩
        · rw [a4] at hb; exact ⟨(HV.out b hb).1, .inl hb⟩
        · rw [a4] at hb
          cases hb
          have h9 : nb < w3.heap.size := hnb
          exact ⟨Nat.lt_trans h9 (by omega), .inr a5⟩
      have A4 := Lib.hid a4
      have KO : Hid (∀ k, (k = n ∨ k = nb ∨ v.ownBlock = some k) → ∀ o, W.heap[k]? = some o → o.isCells = true) := by
        rintro k (rfl | rfl | hk) o ho
        · exact isCells_of_cell c1 ho
        · exact isCells_of_cell a1 ho
        · exact a3.isCells hk ho
      have C4 : Hid (Chg (fun k => k = n ∨ k = nb ∨ v.ownBlock = some k) W ((W.drewN (nq + 1)).setCell ⟨n, q.1.toNat * 64 + q.2.toNat, none⟩ (.bool true))) := (Chg.ext ((Ext.refl W).drewN _)).trans (Chg.setCell _ _ (.inl rfl))
      have hnW : n ≤ W.heap.size := by omega
      have L4 : Hid (Below n W ((W.drewN (nq + 1)).setCell ⟨n, q.1.toNat * 64 + q.2.toNat, none⟩ (.bool true))) := (Below.mono ((Ext.refl W).drewN (nq + 1)) hnW).setCell (p := ⟨n, _, none⟩) (Nat.le_refl _) _
      have hqb2 : qb < W.heap.size := cell_lt q1
      have S4 : Hid (SeenAt ((W.drewN (nq + 1)).setCell ⟨n, q.1.toNat * 64 + q.2.toNat, none⟩ (.bool true)) n (q :: (addN S0 N0 pre).1)) := (HI.out.sn.ext ((Ext.refl W).drewN (nq + 1))).set ⟨r1, r2, r3, r4⟩
      have d1 : ((W.drewN (nq + 1)).setCell ⟨n, q.1.toNat * 64 + q.2.toNat, none⟩ (.bool true)).cell? ⟨nb, 0, none⟩ = some v := by rw [World.cell?_setCell_other _ _ _ _ (fun h => by simp only [Addr.mk.injEq] at h; omega)]; exact ((Ext.refl W).drewN (nq + 1)).cell a1
      have d2 : ((W.drewN (nq + 1)).setCell ⟨n, q.1.toNat * 64 + q.2.toNat, none⟩ (.bool true)).frozen? ⟨nb, 0, none⟩ = false := by rw [World.frozen?_setCell]; exact (Below.frozen ((Ext.refl W).drewN (nq + 1)) (p := ⟨nb, 0, none⟩) (cell_lt a1)).trans a2
      have d3 : ((W.drewN (nq + 1)).setCell ⟨n, q.1.toNat * 64 + q.2.toNat, none⟩ (.bool true)).cell? ⟨qb, 0, none⟩ = some (.int .i64 q.1) := by rw [World.cell?_setCell_other _ _ _ _ (fun h => by simp only [Addr.mk.injEq] at h; omega)]; exact ((Ext.refl W).drewN (nq + 1)).cell q1
      have d4 : ((W.drewN (nq + 1)).setCell ⟨n, q.1.toNat * 64 + q.2.toNat, none⟩ (.bool true)).cell? ⟨qb, 1, none⟩ = some (.int .i64 q.2) := by rw [World.cell?_setCell_other _ _ _ _ (fun h => by simp only [Addr.mk.injEq] at h; omega)]; exact ((Ext.refl W).drewN (nq + 1)).cell q2
      have O4 : Hid (Owns ((W.drewN (nq + 1)).setCell ⟨n, q.1.toNat * 64 + q.2.toNat, none⟩ (.bool true)) v (addN S0 N0 pre).2) := a3.kept (X := fun k => nb < k) (n := 0) ((Kept.ext ((Ext.refl W).drewN _) _ _).trans (Kept.setCell _ _ (by simp; omega))) (fun b hb => (hvb.out b hb).1)
      have z4 : W.heap.size = ((W.drewN (nq + 1)).setCell ⟨n, q.1.toNat * 64 + q.2.toNat, none⟩ (.bool true)).heap.size := by simp [World.setCell, World.drewN]
      have N4 : Hid (v.ownBlock ≠ some n) := fun h => by have := (hvb.out n h).1; omega
      clear a1 a2 a3 a4 c1 c2 q1 q2
      generalize ((W.drewN (nq + 1)).setCell ⟨n, q.1.toNat * 64 + q.2.toNat, none⟩ (.bool true)) = W4 at C4 L4 S4 d1 d2 d3 d4 O4 z4 ⊢
      obtain ⟨i0, hi, hz0, hz1, hz2⟩ := info_parts infoPl
      have hlen : (addN S0 N0 pre).2.length ≤ 8192 := by
        have h1 := HW.out.1.len HR.out
        have h2 := HW.out.2
        omega
      have Z4 := Lib.hid z4
      clear z4
      gi_wp2_with (gi_at_builtin; refine wpListIn_append1 _ rfl _ _ 22 rfl 26 i0 (.agg #[.int .i64 0, .int .i64 0]) 2 16 Try.underlying22 hi hz0 hz1 hz2 rfl (by decide) v _ _ rfl (O4.out.ext ((Ext.refl _).alloc _)) ⟨W4.heap.size, 0, none⟩ 1 1 (by decide) [.int .i64 q.1, .int .i64 q.2] rfl rfl (cell_two_new _ _ _ _) ?c1 ?c2 ?c3 ?c4)
      case c1 => intro u hu; simp at hu; rcases hu with rfl | rfl <;> rfl
      case c2 => unfold maxLen; omega
      case c3 => omega
      case c4 =>
        intro v' w5 hown hend
        have O5 := owns_succ hown
        obtain ⟨av, cv, rfl, _, hbk⟩ := O5.reads
        have hnv : v.ownBlock ≠ some nb := fun h => by have := (hvb.out nb h).1; omega
        have E4 : Ext W4 (W4.alloc (.cells #[.int .i64 q.1, .int .i64 q.2] 26)) := (Ext.refl _).alloc _
        have CA : Chg (fun k => v.ownBlock = some k) (W4.alloc (.cells #[.int .i64 q.1, .int .i64 q.2] 26)) w5 := Chg.app hend (fun b hb => hb)
        have KA : Kept (fun k => v.ownBlock ≠ some k) 0 (W4.alloc (.cells #[.int .i64 q.1, .int .i64 q.2] 26)) w5 := CA.kept (fun k hk _ => hk)
        have d5 : w5.cell? ⟨nb, 0, none⟩ = some v := KA.cell (p := ⟨nb, 0, none⟩) hnv (E4.cell d1)
        have d6 : w5.frozen? ⟨nb, 0, none⟩ = false := (KA.frozen (p := ⟨nb, 0, none⟩) hnv (E4.cell d1)).trans ((Below.frozen E4 (p := ⟨nb, 0, none⟩) (cell_lt d1)).trans d2)
        have HKA := Lib.hid KA
        have HCA := Lib.hid CA
        have HE4 := Lib.hid E4
        have HEND := Lib.hid hend
        clear KA CA E4 hend d1 d2
        gi_wp2
        have hsz : W.heap.size = W4.heap.size := Z4.out
        have e : addN S0 N0 (pre ++ [q]) = (q :: (addN S0 N0 pre).1, (addN S0 N0 pre).2 ++ [q]) := by rw [HS.out, if_neg HM.out]
        generalize hv6 : (Value.slice av ((addN S0 N0 pre).2.length + 1) cv) = v6
        rw [show (Value.slice av ((addN S0 N0 pre).2 ++ [q]).length cv) = v6 from by rw [← hv6]; simp] at O5
        have hend6 : AppEnd (W4.alloc (.cells #[.int .i64 q.1, .int .i64 q.2] 26)) w5 v v6 := by
          have := HEND.out
          rwa [show (Value.slice av ((addN S0 N0 pre).2 ++ [q]).length cv) = v6 from by rw [← hv6]; simp] at this
        have C5 : Chg (fun k => k = nb ∨ v.ownBlock = some k) W4 (w5.setCell ⟨nb, 0, none⟩ v6) :=
          ((Chg.ext HE4.out).trans (Chg.app hend6 (fun b hb => .inr hb))).trans (Chg.setCell _ _ (.inl rfl))
        have C6 : Chg (fun k => k = n ∨ k = nb ∨ v.ownBlock = some k) W (w5.setCell ⟨nb, 0, none⟩ v6) :=
          C4.out.trans (((Chg.ext HE4.out).trans (Chg.app hend6 (fun b hb => .inr (.inr hb)))).trans (Chg.setCell _ _ (.inr (.inl rfl))))
        have L6 : Below n W (w5.setCell ⟨nb, 0, none⟩ v6) :=
          ((L4.out.trans (HE4.out.mono (by omega))).trans (hend6.below (by simp; omega) (fun b hb => by have := (hvb.out b hb).1; omega))).setCell (p := ⟨nb, 0, none⟩) (by simp; omega) _
        refine ⟨C6.kept ?_, (C6.others KO.out).from _, ?_⟩
        · rintro k (⟨hk1, hk2⟩ | hk1) hl (hk3 | hk3 | hk3)
          · exact hk2 (.inl hk3)
          · exact hk2 (.inr (.inl hk3))
          · rcases (hvb.out k hk3).2 with h | h
            · exact hk2 (.inr (.inr h))
            · omega
          · omega
          · omega
          · rcases (hvb.out k hk3).2 with h | h
            · have := (HV.out k h).2; omega
            · omega
        · refine ⟨HJ.out _ _ HI.out.j L6, ⟨Nat.le_trans HI.out.kp.1 C6.1, fun k o hx ho hr => ?_⟩, ?_, v6, ?_, ?_, ?_, ?_⟩
          · have hk := (Array.getElem?_eq_some_iff.1 ho).1
            have h1 := HI.out.kp.2 k o hx ho hr
            rw [C6.2 k (by omega) ?_]
            · exact h1
            · rintro (hk3 | hk3 | hk3)
              · exact HXX.out k hx (.inl hk3)
              · exact HXX.out k hx (.inr (.inl hk3))
              · rcases (hvb.out k hk3).2 with h | h
                · exact HXX.out k hx (.inr (.inr h))
                · omega
          · rw [e]
            exact S4.out.kept (C5.kept (X := fun k => k = n) (n := 0) (fun k hk _ hB => by
              rcases hB with hB | hB
              · omega
              · rw [hk] at hB; exact N4.out hB)) rfl
          · exact World.cell?_setCell_same _ _ _ d5
          · rw [World.frozen?_setCell]; exact d6
          · rw [e]
            exact O5.kept (X := fun k => k ≠ nb) (n := 0) (Kept.setCell _ _ (by simp)) (fun b hb h => by
              subst h
              rcases hend6 with ⟨h1, _, _⟩ | ⟨h1, _⟩
              · rw [h1] at hb; exact hnv hb
              · rw [h1] at hb; simp at hb; omega)
          · rcases hend6 with ⟨h1, _, _⟩ | ⟨h1, _⟩
            · rw [h1]; exact A4.out
            · exact .inr ⟨_, h1, by simp; omega⟩
  case done =>
    intro D W h1 h2 h3 h4
    exact hdone D W h1 h2 h3 h4
end Go.Proofs.Ytfigooilhnahfaa
/- The waves: the iterator's contract. -/

namespace Go.Proofs.Ytfigooilhnahfaa
open Go.RowKit
attribute [local go_sem] Oper.semAt_some

theorem zero_seen : Try.zeroCells121 = Array.replicate 4096 (.bool false) := by kernel_rfl

theorem wave_any (g : Gr) (p : Pt) (s : Value) (w : World) :
    Calls Try.prog 61 #[.agg #[.int .i64 g.rows, .int .i64 g.cols, s], .agg #[.int .i64 p.1, .int .i64 p.2]] w fun e w' => e = .returned (.func (.func 78) #[] #[.pointer (some ⟨w.heap.size + 1, 0, none⟩), .pointer (some ⟨w.heap.size, 0, none⟩)]) ∧
      (w.alloc (.cells #[.int .i64 g.rows, .int .i64 g.cols, s] 33)).alloc (.cells #[.int .i64 p.1, .int .i64 p.2] 26) = w' := by
  go_enter Try.func61, Try.ntmps61
  go_wp2
  go_ret
  exact ⟨rfl, rfl⟩

/-- what stays of the world through all waves -/
structure WFix (g : Gr) (p : Pt) (ga : Option Addr) (gc pb gb n : Nat) (seen : List Pt) (w : World) : Prop where
  p1 : w.cell? ⟨pb, 0, none⟩ = some (.int .i64 p.1)
  p2 : w.cell? ⟨pb, 1, none⟩ = some (.int .i64 p.2)
  g1 : w.cell? ⟨gb, 0, none⟩ = some (.int .i64 g.rows)
  g2 : w.cell? ⟨gb, 1, none⟩ = some (.int .i64 g.cols)
  g3 : w.cell? ⟨gb, 2, none⟩ = some (.slice ga g.bl.length gc)
  hc : Cells2 w ga g.bl
  sn : SeenAt w n seen

/-- at the head of a wave -/
structure WOut (g : Gr) (p : Pt) (ga : Option Addr) (gc pb gb n : Nat) (J : List (Pt × Nat) → World → Prop) (f far : Nat) (seen now : List Pt) (pre : List (Pt × Nat)) (an : Option Addr) (ds : List Deferred) (w : World) : Prop where
  eq : wave g p = pre ++ waves g f seen now far
  fu : far + f = 4097
  gr : now ≠ [] → far + 1 ≤ seen.length
  wi : WI g seen now
  nl : now.length ≤ 4096
  j : J pre w
  fx : WFix g p ga gc pb gb n seen w
  cn : Cells2 w an now
  ab : ∀ b off, an = some ⟨b, off, none⟩ → n < b
  ms : Marks n ds w
def WOutA (g : Gr) (p : Pt) (ga : Option Addr) (gc l pb gb n : Nat) (J : List (Pt × Nat) → World → Prop) (a : Act) (w : World) : Prop :=
  ∃ (f far : Nat) (seen now : List Pt) (pre : List (Pt × Nat)) (an : Option Addr) (cn : Nat) (ds : List Deferred) (u3 u7 u8 u9 u10 u11 u12 u13 u14 u15 u16 u17 u18 u19 u20 u21 u22 u23 u24 u25 u26 u27 u28 u29 u30 u31 u32 u33 u34 u35 u36 u37 u38 u39 u40 u41 u42 u43 u44 u45 u46 u47 u48 u49 u50 u51 u52 u53 u54 u55 u56 u57 u58 : Value),
    a = { tmps := #[.func (.yield l) #[] #[], .pointer (some ⟨pb, 0, none⟩), .pointer (some ⟨gb, 0, none⟩), u3, .pointer (some ⟨n, 0, none⟩), .slice an now.length cn, .int .i64 far, u7, u8, u9, u10, u11, u12, u13, u14, u15, u16, u17, u18, u19, u20, u21, u22, u23, u24, u25, u26, u27, u28, u29, u30, u31, u32, u33, u34, u35, u36, u37, u38, u39, u40, u41, u42, u43, u44, u45, u46, u47, u48, u49, u50, u51, u52, u53, u54, u55, u56, u57, u58], defers := ds } ∧ WOut g p ga gc pb gb n J f far seen now pre an ds w
/-- within a wave -/
structure WIn (g : Gr) (p : Pt) (ga : Option Addr) (gc pb gb n nb : Nat) (J : List (Pt × Nat) → World → Prop) (far : Nat) (seen now : List Pt) (pre : List (Pt × Nat)) (an : Option Addr) (k : Nat) (ds : List Deferred) (w : World) : Prop where
  le : k ≤ now.length
  j : J (pre ++ (now.take k).map (fun q => (q, far))) w
  fx : WFix g p ga gc pb gb n (expand g seen [] (now.take k)).1 w
  cn : Cells2 w an now
  nx : ∃ v, w.cell? ⟨nb, 0, none⟩ = some v ∧ w.frozen? ⟨nb, 0, none⟩ = false ∧ Owns w v (expand g seen [] (now.take k)).2 ∧ (∀ b, v.ownBlock = some b → nb < b)
  ms : Marks n ds w
def WInA (g : Gr) (p : Pt) (ga : Option Addr) (gc l pb gb n nb : Nat) (J : List (Pt × Nat) → World → Prop) (far : Nat) (seen now : List Pt) (pre : List (Pt × Nat)) (an : Option Addr) (cn : Nat) (a : Act) (w : World) : Prop :=
  ∃ (k : Nat) (ds : List Deferred) (u3 u8 u9 u10 u11 u12 u13 u14 u15 u16 u17 u18 u19 u20 u21 u22 u23 u27 u28 u29 u30 u31 u32 u33 u34 u35 u36 u37 u38 u39 u40 u41 u42 u43 u44 u45 u46 u47 u48 u49 u50 u51 u52 u53 u54 u55 u56 u57 u58 : Value), a = { tmps := #[.func (.yield l) #[] #[], .pointer (some ⟨pb, 0, none⟩), .pointer (some ⟨gb, 0, none⟩), u3, .pointer (some ⟨n, 0, none⟩), .slice an now.length cn, .int .i64 far, .pointer (some ⟨nb, 0, none⟩), u8, u9, u10, u11, u12, u13, u14, u15, u16, u17, u18, u19, u20, u21, u22, u23, .slice an now.length cn, .int .i64 now.length, .int .i64 k, u27, u28, u29, u30, u31, u32, u33, u34, u35, u36, u37, u38, u39, u40, u41, u42, u43, u44, u45, u46, u47, u48, u49, u50, u51, u52, u53, u54, u55, u56, u57, u58], defers := ds } ∧ WIn g p ga gc pb gb n nb J far seen now pre an k ds w
def fuel (i : Nat) (a : Act) : Nat := 4097 - (intOf (a.tmps.getD i undef)).toNat

set_option maxHeartbeats 4000000 in
set_option maxRecDepth 100000 in
theorem wave1_iter (g : Gr) (p : Pt) (ga : Option Addr) (gc : Nat) (w : World) (pb gb : Nat) (MdC : Nat → Prop) (hr : Right g) (hp : inside g p = true)
    (p1 : w.cell? ⟨pb, 0, none⟩ = some (.int .i64 p.1)) (p2 : w.cell? ⟨pb, 1, none⟩ = some (.int .i64 p.2))
    (g1 : w.cell? ⟨gb, 0, none⟩ = some (.int .i64 g.rows)) (g2 : w.cell? ⟨gb, 1, none⟩ = some (.int .i64 g.cols)) (g3 : w.cell? ⟨gb, 2, none⟩ = some (.slice ga g.bl.length gc))
    (hc : Cells2 w ga g.bl) (m1 : ¬ MdC pb) (m2 : ¬ MdC gb) (m3 : g.bl ≠ [] → ∀ b off, ga = some ⟨b, off, none⟩ → ¬ MdC b) :
    Iter Try.prog 78 #[.pointer (some ⟨pb, 0, none⟩), .pointer (some ⟨gb, 0, none⟩)] (fun x : Pt × Nat => #[.agg #[.int .i64 (x.1).1, .int .i64 (x.1).2], .int .i64 x.2]) (wave g p) (fun n A B => Below n A B) (fun n k => (k < n ∧ ¬ MdC k) ∨ n ≤ k) 0 w := by
  intro l J Jx W hW hJ hJx hY h0
  have HR := Lib.hid hr
  obtain ⟨b1, b2, b3, b4⟩ := inside_bd hr hp
  have HC : Hid (Cells2 W ga g.bl) := hc.ext hW
  have p1 := hW.cell p1
  have p2 := hW.cell p2
  have g1 := hW.cell g1
  have g2 := hW.cell g2
  have g3 := hW.cell g3
  have HY := Lib.hid hY
  have HJ := Lib.hid hJ
  have HJx := Lib.hid hJx
  have Hp := Lib.hid hp
  have zp : pb < W.heap.size := cell_lt p1
  have zg : gb < W.heap.size := cell_lt g1
  have hbl : Hid (g.bl ≠ [] → ∀ b off, ga = some ⟨b, off, none⟩ → b < W.heap.size) := fun hne b off hb => HC.out.lt hne hb
  clear hc hr hY hJ hJx hW hp
  refine callsIn_of_wp_marks Try.func78 rfl trivial ?_
  simp only [Try.ntmps78, List.size_toArray, List.length_cons, List.length_nil, Nat.reduceAdd, Nat.reduceSub, Array.replicate_succ, Array.replicate_zero, List.push_toArray, List.append_toArray, List.nil_append, List.cons_append]
  gi_wp2
  refine wpIn_wide.2 ?_
  have E1 : Ext W (W.alloc (.cells Try.zeroCells121 121)) := (Ext.refl _).alloc _
  have S0 : Hid (SeenAt (W.alloc (.cells Try.zeroCells121 121)) W.heap.size []) := fun q hq => by
    refine ⟨?_, World.frozen?_alloc_new _ _ _ _⟩
    rw [World.cell?_alloc_new, zero_seen, Array.getElem?_replicate, if_pos (show q.1.toNat * 64 + q.2.toNat < 4096 from idx_lt hq)]
    simp
  have z1 : W.heap.size < (W.alloc (.cells Try.zeroCells121 121)).heap.size := by simp
  generalize W.alloc (.cells Try.zeroCells121 121) = W1 at E1 S0 z1 ⊢
  have q1 := E1.cell p1
  have q2 := E1.cell p2
  have s1 := (S0.out p ⟨b1, b2, b3, b4⟩).1
  have s2 := (S0.out p ⟨b1, b2, b3, b4⟩).2
  rw [show decide (p ∈ ([] : List Pt)) = false from by simp] at s1
  go_region
  have B2 : Hid (Below W.heap.size W1 (W1.setCell ⟨W.heap.size, p.1.toNat * 64 + p.2.toNat, none⟩ (.bool true)).drew) := ((Below.refl _ _).setCell (p := ⟨W.heap.size, _, none⟩) (Nat.le_refl _) _).drew
  have S2 : Hid (SeenAt (W1.setCell ⟨W.heap.size, p.1.toNat * 64 + p.2.toNat, none⟩ (.bool true)).drew W.heap.size [p]) := (S0.out.set ⟨b1, b2, b3, b4⟩).drew
  have z2 : W.heap.size < (W1.setCell ⟨W.heap.size, p.1.toNat * 64 + p.2.toNat, none⟩ (.bool true)).drew.heap.size := Nat.lt_of_lt_of_le z1 B2.out.size
  generalize (W1.setCell ⟨W.heap.size, p.1.toNat * 64 + p.2.toNat, none⟩ (.bool true)).drew = W2 at B2 S2 z2 ⊢
  have B0 : Hid (Below W.heap.size W W2) := Below.trans E1 B2.out
  have q1 : W2.cell? ⟨pb, 0, none⟩ = some (.int .i64 p.1) := (B0.out.cell (p := ⟨pb, 0, none⟩) (cell_lt p1)).trans p1
  have q2 : W2.cell? ⟨pb, 1, none⟩ = some (.int .i64 p.2) := (B0.out.cell (p := ⟨pb, 1, none⟩) (cell_lt p2)).trans p2
  clear s1 s2 S0 B2 E1
  gi_wp2
  have E3 : Ext W2 (W2.alloc (.cells #[.int .i64 p.1, .int .i64 p.2] 26)) := (Ext.refl _).alloc _
  refine wpIn_loop (WOutA g p ga gc l pb gb W.heap.size J) (fun a _ => fuel 6 a) ?_ ?_
  · refine ⟨4097, 0, [p], [p], [], some ⟨W2.heap.size, 0, none⟩, 1, [], _, _, _, _, _, _, _, _, _, _, _, _, _, _, _, _, _, _, _, _, _, _, _, _, _, _, _, _, _, _, _, _, _, _, _, _, _, _, _, _, _, _, _, _, _, _, _, _, _, _, _, _, _, rfl, ?_⟩
    exact {
      eq := by rw [List.nil_append]; unfold wave; rfl
      fu := by omega
      gr := fun _ => by simp
      wi := ⟨by simp, fun q hq => by simp at hq; subst hq; exact Hp.out, fun q hq => hq⟩
      nl := by simp
      j := HJ.out _ _ _ h0 (Below.trans B0.out (E3.mono (by omega)))
      fx := ⟨E3.cell q1, E3.cell q2, E3.cell ((B0.out.cell (p := ⟨gb, 0, none⟩) (cell_lt g1)).trans g1), E3.cell ((B0.out.cell (p := ⟨gb, 1, none⟩) (cell_lt g2)).trans g2), E3.cell ((B0.out.cell (p := ⟨gb, 2, none⟩) (cell_lt g3)).trans g3),
        Cells2.ext (Cells2.kept (Kd := fun k => k < W.heap.size) (n := 0) ⟨B0.out.size, fun k o hk ho _ => by rw [B0.out.block k hk]; exact ho⟩ (fun b off hb hne => hbl.out hne b off hb) HC.out) E3, S2.out.ext E3⟩
      cn := cells2_one (by go_simp) (by go_simp)
      ab := fun b off h => by cases h; exact z2
      ms := Marks.nil _ _ }
  · clear q1 q2 E3 S2 B0 z2 z1 g1 g2 g3 p1 p2 HC h0
    rintro a wr ⟨f, far, seen, now, pre, an, cn, ds, u3, u7, u8, u9, u10, u11, u12, u13, u14, u15, u16, u17, u18, u19, u20, u21, u22, u23, u24, u25, u26, u27, u28, u29, u30, u31, u32, u33, u34, u35, u36, u37, u38, u39, u40, u41, u42, u43, u44, u45, u46, u47, u48, u49, u50, u51, u52, u53, u54, u55, u56, u57, u58, rfl, h⟩
    by_cases hnow : now = []
    · subst hnow
      gi_wp2
      refine leaves_marks (v := .tuple #[]) (fun w => results_none rfl _ _ _) _ _ h.ms (fun w' hw' => ⟨⟨_, rfl⟩, .inl ?_⟩)
      have e := h.eq
      rw [waves_nil, List.append_nil] at e
      rw [e]
      exact HJ.out _ _ _ h.j hw'
    · have hlen : 0 < now.length := List.length_pos_iff.2 hnow
      have hsl := h.wi.len HR.out
      have hl2 : now.length ≤ 4096 := h.nl
      have hgt : (0 : Int) < (now.length : Int) := by omega
      obtain ⟨f, rfl⟩ : ∃ f', f = f' + 1 := ⟨f - 1, by have := h.fu; have := h.gr hnow; omega⟩
      have hfar : far ≤ 4096 := by have := h.fu; omega
      have hw := Lib.hid (waves_step g f seen now far hnow)
      have hn0 : W.heap.size < wr.heap.size := by
        have := (h.fx.sn (0, 0) ⟨by decide, by decide, by decide, by decide⟩).1
        exact cell_lt this
      gi_wp2
      have E4 : Ext wr (wr.alloc (.cells #[.slice none 0 0] 22)) := (Ext.refl _).alloc _
      have n1 : (wr.alloc (.cells #[.slice none 0 0] 22)).cell? ⟨wr.heap.size, 0, none⟩ = some (.slice none 0 0) := by go_simp
      have n2 : (wr.alloc (.cells #[.slice none 0 0] 22)).frozen? ⟨wr.heap.size, 0, none⟩ = false := by go_simp
      refine wpIn_loop (WInA g p ga gc l pb gb W.heap.size wr.heap.size J far seen now pre an cn) (fun a _ => fuel 26 a) ?_ ?_
      · refine ⟨0, ds, _, _, _, _, _, _, _, _, _, _, _, _, _, _, _, _, _, _, _, _, _, _, _, _, _, _, _, _, _, _, _, _, _, _, _, _, _, _, _, _, _, _, _, _, _, _, _, _, _, rfl, ?_⟩
        exact {
          le := Nat.zero_le _
          j := by simpa using HJ.out _ _ _ h.j (E4.mono (by omega))
          fx := ⟨E4.cell h.fx.p1, E4.cell h.fx.p2, E4.cell h.fx.g1, E4.cell h.fx.g2, E4.cell h.fx.g3, h.fx.hc.ext E4, h.fx.sn.ext E4⟩
          cn := h.cn.ext E4
          nx := ⟨_, n1, n2, Owns.nil _, fun b hb => by cases hb⟩
          ms := h.ms.ext E4 }
      · have HH := Lib.hid h
        have H4 := Lib.hid E4
        clear h n1 n2 E4
        generalize hnb : wr.heap.size = nb at hn0 ⊢
        have HNB := Lib.hid hnb
        clear hnb
        rintro a w1 ⟨k, ds1, u3, u8, u9, u10, u11, u12, u13, u14, u15, u16, u17, u18, u19, u20, u21, u22, u23, u27, u28, u29, u30, u31, u32, u33, u34, u35, u36, u37, u38, u39, u40, u41, u42, u43, u44, u45, u46, u47, u48, u49, u50, u51, u52, u53, u54, u55, u56, u57, u58, rfl, h⟩
        have hk := h.le
        have F1 := h.fx.p1
        have F2 := h.fx.p2
        have F3 := h.fx.g1
        have F4 := h.fx.g2
        have F5 := h.fx.g3
        obtain ⟨v, n1, n2, n3, n4⟩ := h.nx
        have hz := cell_lt n1
        dsimp only at hz
        by_cases hlt : k < now.length
        · obtain ⟨b, off, ha, e1, e2⟩ := h.cn k hlt
          subst ha
          have hlt' : (k : Int) < (now.length : Int) := by omega
          generalize hx : pt now k = x at e1 e2
          have HX := Lib.hid hx
          clear hx
          have hxn : x ∈ now := by rw [← HX.out]; unfold pt; rw [List.getD_eq_getElem?_getD, List.getElem?_eq_getElem hlt]; simp
          have hxi : Hid (inside g x = true) := HH.out.wi.ins _ (HH.out.wi.sub _ hxn)
          obtain ⟨x1, x2, x3, x4⟩ := inG_of HR.out hxi.out
          have E5 : Ext w1 (w1.alloc (.cells #[.int .i64 x.1, .int .i64 x.2] 26)) := (Ext.refl _).alloc _
          have htk : Hid (now.take (k + 1) = now.take k ++ [x]) := by
            show _ = _
            rw [List.take_succ_eq_append_getElem hlt]
            congr 2
            rw [← HX.out]; unfold pt
            rw [List.getD_eq_getElem?_getD, List.getElem?_eq_getElem hlt]; simp
          obtain ⟨fn, tmps, assign, body, hy, hR⟩ := HY.out (pre ++ (now.take k).map (fun q => (q, far))) (x, far) (w1.alloc (.cells #[.int .i64 x.1, .int .i64 x.2] 26)) (by
            rw [HH.out.eq, hw.out, List.append_assoc, List.prefix_append_right_inj]
            rw [show (now.take k).map (fun q => (q, far)) ++ [(x, far)] = (now.take (k + 1)).map (fun q => (q, far)) from by rw [htk.out]; simp]
            exact List.IsPrefix.trans (List.IsPrefix.map _ (List.take_prefix _ _)) (List.prefix_append _ _)) (by simp; omega) (HJ.out _ _ _ h.j (E5.mono (by omega)))
          dsimp only at hy
          gi_wp2
          refine ⟨rfl, hR.mono ?_⟩
          clear hy hR
          rintro e w2 (⟨rfl, hj2, hk2⟩ | ⟨rfl, hj2, hk2⟩)
          · have K2 : Hid (Kept (fun k => (k < W.heap.size ∧ ¬ MdC k) ∨ W.heap.size ≤ k) W.heap.size w1 w2) := (Kept.ext E5 _ _).trans hk2
            have F1' : w2.cell? ⟨pb, 0, none⟩ = some (.int .i64 p.1) := K2.out.cell (p := ⟨pb, 0, none⟩) (.inl ⟨zp, m1⟩) F1
            have F2' : w2.cell? ⟨pb, 1, none⟩ = some (.int .i64 p.2) := K2.out.cell (p := ⟨pb, 1, none⟩) (.inl ⟨zp, m1⟩) F2
            have F3' : w2.cell? ⟨gb, 0, none⟩ = some (.int .i64 g.rows) := K2.out.cell (p := ⟨gb, 0, none⟩) (.inl ⟨zg, m2⟩) F3
            have F4' : w2.cell? ⟨gb, 1, none⟩ = some (.int .i64 g.cols) := K2.out.cell (p := ⟨gb, 1, none⟩) (.inl ⟨zg, m2⟩) F4
            have F5' : w2.cell? ⟨gb, 2, none⟩ = some (.slice ga g.bl.length gc) := K2.out.cell (p := ⟨gb, 2, none⟩) (.inl ⟨zg, m2⟩) F5
            have X1 : w2.cell? ⟨w1.heap.size, 0, none⟩ = some (.int .i64 x.1) := hk2.cell (p := ⟨w1.heap.size, 0, none⟩) (.inr (by simp; omega)) (by go_simp)
            have X2 : w2.cell? ⟨w1.heap.size, 1, none⟩ = some (.int .i64 x.2) := hk2.cell (p := ⟨w1.heap.size, 1, none⟩) (.inr (by simp; omega)) (by go_simp)
            have HC2 : Hid (Cells2 w2 ga g.bl) := h.fx.hc.kept K2.out (fun b off hb hne => .inl ⟨hbl.out hne b off hb, m3 hne b off hb⟩)
            have CN2 : Hid (Cells2 w2 (some ⟨b, off, none⟩) now) := h.cn.kept K2.out (fun b' off' hb hne => .inr (by have := HH.out.ab b' off' (by rw [hb]); omega))
            have SN2 : Hid (SeenAt w2 W.heap.size (expand g seen [] (now.take k)).1) := h.fx.sn.kept K2.out (.inr (Nat.le_refl _))
            have N1' : w2.cell? ⟨nb, 0, none⟩ = some v := K2.out.cell (p := ⟨nb, 0, none⟩) (.inr (by simp; omega)) n1
            have N2' : w2.frozen? ⟨nb, 0, none⟩ = false := (K2.out.frozen (p := ⟨nb, 0, none⟩) (.inr (by simp; omega)) n1).trans n2
            have N3' : Hid (Owns w2 v (expand g seen [] (now.take k)).2) := n3.kept K2.out (fun b hb => .inr (by have := n4 b hb; omega))
            have MS2 : Hid (Marks W.heap.size ds1 w2) := h.ms.keptX K2.out (fun D hD _ => .inr hD)
            have HJ2 := Lib.hid hj2
            have zw : w1.heap.size < w2.heap.size := by have := hk2.1; simp at this; omega
            have n4' := Lib.hid n4
            clear hj2 hk2 h n1 n2 n3 n4 e1 e2 F1 F2 F3 F4 F5 E5 hz
            gi_wp2_with (refine ⟨trivial, rfl, ?_⟩; gi_at_call 74; refine (callsIn_wide.2 (around_any g x _ _)).mono ?_; rintro e w3 ⟨rfl, hw3⟩)
            have E6 : Ext w2 w3 := by rw [← hw3]; exact ((Ext.refl _).alloc _).alloc _
            have hz3 : w3.heap.size = w2.heap.size + 2 := by rw [← hw3]; simp
            have G1 : w3.cell? ⟨w2.heap.size, 0, none⟩ = some (.int .i64 g.rows) := by rw [← hw3, World.cell?_alloc2_first]; rfl
            have G2 : w3.cell? ⟨w2.heap.size, 1, none⟩ = some (.int .i64 g.cols) := by rw [← hw3, World.cell?_alloc2_first]; rfl
            have G3 : w3.cell? ⟨w2.heap.size, 2, none⟩ = some (.slice ga g.bl.length gc) := by rw [← hw3, World.cell?_alloc2_first]; rfl
            have P1 : w3.cell? ⟨w2.heap.size + 1, 0, none⟩ = some (.int .i64 x.1) := by rw [← hw3, World.cell?_alloc2_new]; rfl
            have P2 : w3.cell? ⟨w2.heap.size + 1, 1, none⟩ = some (.int .i64 x.2) := by rw [← hw3, World.cell?_alloc2_new]; rfl
            have XI := expand_inv (now.take k) seen [] ⟨HH.out.wi.nd, HH.out.wi.ins, fun q hq => by cases hq⟩
            have XL := XI.1.len HR.out
            have XS := XI.2
            have hvl : ∀ b, v.ownBlock = some b → nb < b ∧ b < w2.heap.size := fun b hb => ⟨n4'.out b hb, N3'.out.lt hb⟩
            have hnbz : nb < w2.heap.size := cell_lt N1'
            have HNX : ∀ D, W.heap.size ≤ D → w3.heap[D]? = some (.deferred (some [])) → ¬ inWave W.heap.size nb v D := by
              rintro D _ hD (h | h | h)
              · have := isCells_of_cell (p := ⟨W.heap.size, _, none⟩) ((SN2.out.ext E6) (0, 0) ⟨by decide, by decide, by decide, by decide⟩).1 (h ▸ hD)
                cases this
              · have := isCells_of_cell (p := ⟨nb, 0, none⟩) (E6.cell N1') (h ▸ hD)
                cases this
              · have := (N3'.out.ext E6).isCells h hD
                cases this
            have hJ3 : J (pre ++ (now.take k).map (fun q => (q, far)) ++ [(x, far)]) w3 := HJ.out _ _ _ HJ2.out (E6.mono (by omega))
            refine wpIn_wide.2 (wave1_range _ _ rfl g x ga gc w3 (w2.heap.size + 1) w2.heap.size W.heap.size nb (fun k => ((k < W.heap.size ∧ ¬ MdC k) ∨ W.heap.size ≤ k) ∧ ¬ inWave W.heap.size nb v k)
              (expand g seen [] (now.take k)).1 (expand g seen [] (now.take k)).2 v (J (pre ++ (now.take k).map (fun q => (q, far)) ++ [(x, far)]))
              HR.out hxi.out XI.1 (by simp at XS; omega) P1 P2 G1 G2 G3 (HC2.out.ext E6) ?_ ?_ ?_ (fun k h => h.2) (fun A B h hb => HJ.out _ _ _ h hb) hn0 (by omega) (fun b hb => by have := hvl b hb; omega)
              hJ3 (SN2.out.ext E6) (E6.cell N1') ((Below.frozen E6 (p := ⟨nb, 0, none⟩) (cell_lt N1')).trans N2') (N3'.out.ext E6) _ _ _ _ _ _ _ _ _ _ _ _ _ _ _ _ _ _ _ _ _ _ _ _ _ _ _ _ _ _ _ _ _ _ _ _ _ _ _ _ _ _ _ _ _ _ _ _ _ _ _ _ _ _ _ _ ds1 _ ?_)
            · rintro (h | h | h)
              · omega
              · omega
              · have := hvl _ h; omega
            · rintro (h | h | h)
              · omega
              · omega
              · have := hvl _ h; omega
            · rintro hne b' off' hb' (h | h | h)
              · have := hbl.out hne b' off' hb'; omega
              · have := hbl.out hne b' off' hb'; omega
              · have := hbl.out hne b' off' hb'; have := hvl _ h; omega
            · intro D w4 k1 k2 k3 k4
              gi_wp2
              have hD1 : ∀ k, W.heap.size ≤ k → k ≠ W.heap.size → k ≠ nb → v.ownBlock ≠ some k → ((k < W.heap.size ∧ ¬ MdC k) ∨ W.heap.size ≤ k) ∧ ¬ inWave W.heap.size nb v k := by
                intro k h1 h2 h3 h4
                exact ⟨.inr h1, by rintro (h | h | h); exact h2 h; exact h3 h; exact h4 h⟩
              have hlow : ∀ k, k < W.heap.size → ¬ MdC k → ((k < W.heap.size ∧ ¬ MdC k) ∨ W.heap.size ≤ k) ∧ ¬ inWave W.heap.size nb v k := by
                intro k h1 h2
                refine ⟨.inl ⟨h1, h2⟩, ?_⟩
                rintro (h | h | h)
                · omega
                · omega
                · have := hvl _ h; omega
              have hex : addN (expand g seen [] (now.take k)).1 (expand g seen [] (now.take k)).2 (near g x) = expand g seen [] (now.take (k + 1)) := by rw [htk.out, expand_snoc]
              have hnw : ∀ b' off', some (⟨b, off, none⟩ : Addr) = some ⟨b', off', none⟩ → now ≠ [] → b' < nb ∧ W.heap.size < b' := by
                intro b' off' hb' hne
                have h1 := HH.out.cn.lt hne hb'
                rw [HNB.out] at h1
                exact ⟨h1, HH.out.ab b' off' hb'⟩
              refine ⟨⟨k + 1, mark D :: ds1, _, _, _, _, _, _, _, _, _, _, _, _, _, _, _, _, _, _, _, _, _, _, _, _, _, _, _, _, _, _, _, _, _, _, _, _, _, _, _, _, _, _, _, _, _, _, _, _, _, rfl, ?_⟩, by simp [fuel, intOf]; omega⟩
              exact {
                le := hlt
                j := by
                  have := k3.j
                  rw [htk.out]
                  simpa using this
                fx := ⟨k3.kp.cell (p := ⟨pb, 0, none⟩) (hlow pb zp m1) (E6.cell F1'), k3.kp.cell (p := ⟨pb, 1, none⟩) (hlow pb zp m1) (E6.cell F2'), k3.kp.cell (p := ⟨gb, 0, none⟩) (hlow gb zg m2) (E6.cell F3'),
                  k3.kp.cell (p := ⟨gb, 1, none⟩) (hlow gb zg m2) (E6.cell F4'), k3.kp.cell (p := ⟨gb, 2, none⟩) (hlow gb zg m2) (E6.cell F5'),
                  (HC2.out.ext E6).kept k3.kp (fun b' off' hb' hne => hlow b' (hbl.out hne b' off' hb') (m3 hne b' off' hb')), by rw [← hex]; exact k3.sn⟩
                cn := (CN2.out.ext E6).kept k3.kp (fun b' off' hb' hne => by
                  have h1 := hnw b' off' hb' hne
                  exact hD1 b' (by omega) (by omega) (by omega) (fun h => by have := (hvl _ h).1; omega))
                nx := by
                  obtain ⟨v', y1, y2, y3, y4⟩ := k3.nx
                  refine ⟨v', y1, y2, by rw [← hex]; exact y3, fun b' hb' => ?_⟩
                  rcases y4 with y4 | ⟨c, y4, y5⟩
                  · rw [y4] at hb'; exact n4'.out b' hb'
                  · rw [y4] at hb'; cases hb'; omega
                ms := Marks.cons (MS2.out.ext E6) k1 (by omega) ((MS2.out.ext E6).keptX k3.kp (fun D' hD' hm' => ⟨.inr hD', HNX D' hD' hm'⟩)) k4 }
          · gi_wp2
            refine leaves_marks (v := .tuple #[]) (fun w => results_none rfl _ _ _) _ _ (h.ms.keptX (Kept.ext' (Kept.refl (fun k => (k < W.heap.size ∧ ¬ MdC k) ∨ W.heap.size ≤ k) _ _) E5 |>.trans hk2) (fun D hD _ => .inr hD)) (fun w' hw' => ⟨⟨_, rfl⟩, .inr ⟨_, ?_, HJx.out _ _ _ hj2 hw'⟩⟩)
            rw [HH.out.eq, hw.out, List.append_assoc, List.prefix_append_right_inj]
            rw [show (now.take k).map (fun q => (q, far)) ++ [(x, far)] = (now.take (k + 1)).map (fun q => (q, far)) from by rw [htk.out]; simp]
            exact List.IsPrefix.trans (List.IsPrefix.map _ (List.take_prefix _ _)) (List.prefix_append _ _)
        · have hkk : k = now.length := by omega
          subst hkk
          obtain ⟨av, cv, rfl, hrd, hbk⟩ := n3.reads
          have XI := expand_inv now seen [] ⟨HH.out.wi.nd, HH.out.wi.ins, fun q hq => by cases hq⟩
          have XL := XI.1.len HR.out
          have XS := XI.2
          rw [List.take_length] at hrd hbk n4
          gi_wp2
          refine ⟨⟨f, far + 1, (expand g seen [] now).1, (expand g seen [] now).2, pre ++ now.map (fun q => (q, far)), av, cv, ds1, _, _, _, _, _, _, _, _, _, _, _, _, _, _, _, _, _, _, _, _, _, _, _, _, _, _, _, _, _, _, _, _, _, _, _, _, _, _, _, _, _, _, _, _, _, _, _, _, _, _, _, _, _, by go_num, ?_⟩, by simp [fuel, intOf]; omega⟩
          exact {
            eq := by rw [HH.out.eq, hw.out, List.append_assoc]
            fu := by have := HH.out.fu; omega
            gr := fun hne => by
              have h1 := HH.out.gr hnow
              have h2 := List.length_pos_iff.2 hne
              simp at XS
              omega
            wi := XI.1
            nl := by simp at XS; omega
            j := by have := h.j; rwa [List.take_length] at this
            fx := by have := h.fx; rwa [List.take_length] at this
            cn := hrd
            ab := fun b' off' hb' => by have := n4 _ (hbk b' off' hb'); omega
            ms := h.ms }
end Go.Proofs.Ytfigooilhnahfaa
/- The table of distances, in plain Lean; and how it lies in memory. -/
namespace Go.Proofs.Ytfigooilhnahfaa
open Go.RowKit

/-- what the last pair says of a cell, -1 if none does -/
def far (l : List (Pt × Nat)) (q : Pt) : Int := l.foldl (fun d x => if x.1 = q then (x.2 : Int) else d) (-1)
theorem far_snoc (l : List (Pt × Nat)) (x : Pt × Nat) (q : Pt) : far (l ++ [x]) q = if x.1 = q then (x.2 : Int) else far l q := by
  unfold far
  rw [List.foldl_append]
  rfl
/-- the distance from a cell, -1 where there is no route -/
def dst (g : Gr) (p q : Pt) : Int := far (wave g p) q

theorem waves_inside (g : Gr) : ∀ (f : Nat) (seen now : List Pt) (n : Nat), WI g seen now → ∀ x ∈ waves g f seen now n, inside g x.1 = true := by
  intro f
  induction f with
  | zero => intro seen now n _ x hx; cases hx
  | succ f ih =>
    intro seen now n h x hx
    unfold waves at hx
    split at hx
    · cases hx
    · rcases List.mem_append.1 hx with hx | hx
      · obtain ⟨q, hq, rfl⟩ := List.mem_map.1 hx
        exact h.ins _ (h.sub _ hq)
      · exact ih _ _ _ (expand_inv now seen [] ⟨h.nd, h.ins, fun q hq => by cases hq⟩).1 x hx
theorem wave_inside {g : Gr} {p : Pt} (hp : inside g p = true) : ∀ x ∈ wave g p, inside g x.1 = true := by
  unfold wave
  exact waves_inside g _ _ _ _ ⟨by simp, fun q hq => by simp at hq; subst hq; exact hp, fun q hq => hq⟩

/-- the first i cells of a table are -1, the others 0 -/
def FillAt (w : World) (tb i : Nat) : Prop := ∀ k, k < 4096 → w.cell? ⟨tb, k, none⟩ = some (.int .i64 (if k < i then -1 else 0)) ∧ w.frozen? ⟨tb, k, none⟩ = false
theorem FillAt.set {w : World} {tb i : Nat} (h : FillAt w tb i) (hi : i < 4096) : FillAt (w.setCell ⟨tb, i, none⟩ (.int .i64 (-1))) tb (i + 1) := fun k hk => by
  refine ⟨?_, by rw [World.frozen?_setCell]; exact (h k hk).2⟩
  by_cases e : k = i
  · subst e
    rw [World.cell?_setCell_same _ _ _ (h k hk).1, if_pos (by omega)]
  · rw [World.cell?_setCell_other _ _ _ _ (fun h => by simp only [Addr.mk.injEq] at h; omega), (h k hk).1]
    by_cases h1 : k < i
    · rw [if_pos h1, if_pos (by omega)]
    · rw [if_neg h1, if_neg (by omega)]
theorem FillAt.below {m tb i : Nat} {A B : World} (hs : FillAt A tb i) (h : Below m A B) (hm : tb < m) : FillAt B tb i := fun k hk =>
  ⟨(h.cell (p := ⟨tb, _, none⟩) hm).trans (hs k hk).1, (h.frozen (p := ⟨tb, _, none⟩) hm).trans (hs k hk).2⟩

/-- a table says D -/
def TabAt (w : World) (tb : Nat) (D : Pt → Int) : Prop :=
  ∀ q : Pt, InG q → w.cell? ⟨tb, q.1.toNat * 64 + q.2.toNat, none⟩ = some (.int .i64 (D q)) ∧ w.frozen? ⟨tb, q.1.toNat * 64 + q.2.toNat, none⟩ = false
theorem TabAt.below {m tb : Nat} {D : Pt → Int} {A B : World} (hs : TabAt A tb D) (h : Below m A B) (hm : tb < m) : TabAt B tb D := fun q hq =>
  ⟨(h.cell (p := ⟨tb, _, none⟩) hm).trans (hs q hq).1, (h.frozen (p := ⟨tb, _, none⟩) hm).trans (hs q hq).2⟩
theorem TabAt.lt {w : World} {tb : Nat} {D : Pt → Int} (h : TabAt w tb D) : tb < w.heap.size := cell_lt (h (0, 0) ⟨by decide, by decide, by decide, by decide⟩).1
theorem TabAt.ext {tb : Nat} {D : Pt → Int} {A B : World} (hs : TabAt A tb D) (h : Ext A B) : TabAt B tb D := hs.below h hs.lt
theorem TabAt.set {tb : Nat} {A : World} {l : List (Pt × Nat)} (hs : TabAt A tb (far l)) {x : Pt × Nat} (hp : InG x.1) :
    TabAt (A.setCell ⟨tb, x.1.1.toNat * 64 + x.1.2.toNat, none⟩ (.int .i64 x.2)) tb (far (l ++ [x])) := fun q hq => by
  refine ⟨?_, by rw [World.frozen?_setCell]; exact (hs q hq).2⟩
  rw [far_snoc]
  by_cases e : x.1 = q
  · subst e
    rw [World.cell?_setCell_same A _ _ (hs x.1 hq).1, if_pos rfl]
  · rw [World.cell?_setCell_other A _ _ _ (by
      intro h
      simp only [Addr.mk.injEq, true_and, and_true] at h
      exact e (idx_inj hp hq h)), (hs q hq).1, if_neg e]
theorem FillAt.tab {w : World} {tb : Nat} (h : FillAt w tb 4096) : TabAt w tb (far []) := fun q hq => by
  have hl := idx_lt hq
  have := h (q.1.toNat * 64 + q.2.toNat) hl
  rw [if_pos (show q.1.toNat * 64 + q.2.toNat < 4096 from hl)] at this
  exact this
end Go.Proofs.Ytfigooilhnahfaa
/- The table of distances: the loop over the wave. -/
namespace Go.Proofs.Ytfigooilhnahfaa
open Go.RowKit
attribute [local go_sem] Oper.semAt_some

set_option maxHeartbeats 4000000 in
set_option maxRecDepth 100000 in
theorem dist_range (cas cbd : Code) (hcode : rngOf (Try.f49.body.getD .skip) = [(cas, cbd)]) (g : Gr) (p : Pt) (ga : Option Addr) (gc : Nat) (w3 : World) (pb gb ob tb : Nat)
    (hr : Right g) (hp : inside g p = true)
    (p1 : w3.cell? ⟨pb, 0, none⟩ = some (.int .i64 p.1)) (p2 : w3.cell? ⟨pb, 1, none⟩ = some (.int .i64 p.2))
    (g1 : w3.cell? ⟨gb, 0, none⟩ = some (.int .i64 g.rows)) (g2 : w3.cell? ⟨gb, 1, none⟩ = some (.int .i64 g.cols)) (g3 : w3.cell? ⟨gb, 2, none⟩ = some (.slice ga g.bl.length gc))
    (hc : Cells2 w3 ga g.bl) (m1 : pb ≠ tb) (m2 : gb ≠ tb) (m3 : g.bl ≠ [] → ∀ b off, ga = some ⟨b, off, none⟩ → b ≠ tb) (hob : ob ≠ tb)
    (o1 : w3.cell? ⟨ob, 0, none⟩ = some (.pointer (some ⟨tb, 0, none⟩))) (t0 : TabAt w3 tb (far []))
    (u0 u1 u2 u3 u4 u6 u7 u8 u9 u10 u11 u12 u13 u14 u15 u16 u17 u18 u19 u20 u21 u22 u23 u24 u25 u26 u27 u29 u30 u31 u32 u33 u34 u35 u36 u37 u38 u39 u40 : Value) (ds : List Deferred) (Q : Exit → Act → World → Prop)
    (hdone : ∀ (D : Nat) (W : World), w3.heap.size ≤ D → D < W.heap.size → TabAt W tb (dst g p) → Below tb w3 W → W.cell? ⟨ob, 0, none⟩ = some (.pointer (some ⟨tb, 0, none⟩)) → W.heap[D]? = some (.deferred (some [])) →
      Q .normal { tmps := #[u0, u1, u2, u3, u4, .pointer (some ⟨ob, 0, none⟩), u6, u7, u8, u9, u10, u11, u12, u13, u14, u15, u16, u17, u18, u19, u20, u21, u22, u23, u24, u25, u26, u27, .func (.func 78) #[] #[.pointer (some ⟨pb, 0, none⟩), .pointer (some ⟨gb, 0, none⟩)], u29, u30, u31, u32, u33, u34, u35, u36, u37, u38, u39, u40], defers := mark D :: ds } W) :
    (Code.rangeFunc (.tmp 28) #[29, 30] cas cbd).wp Try.prog Q { tmps := #[u0, u1, u2, u3, u4, .pointer (some ⟨ob, 0, none⟩), u6, u7, u8, u9, u10, u11, u12, u13, u14, u15, u16, u17, u18, u19, u20, u21, u22, u23, u24, u25, u26, u27, .func (.func 78) #[] #[.pointer (some ⟨pb, 0, none⟩), .pointer (some ⟨gb, 0, none⟩)], u29, u30, u31, u32, u33, u34, u35, u36, u37, u38, u39, u40], defers := ds } w3 := by
  have HC := Lib.hid hcode
  have HR := Lib.hid hr
  have HP := Lib.hid hp
  have ht := t0.lt
  have hz := cell_lt o1
  dsimp only at hz
  refine wp_range (n := 0) (gf := 78) (lb := #[.pointer (some ⟨pb, 0, none⟩), .pointer (some ⟨gb, 0, none⟩)]) rfl (enters_of Try.func78 (by kernel_rfl) rfl)
    (wave1_iter g p ga gc w3 pb gb (fun k => k = tb) hr hp p1 p2 g1 g2 g3 hc m1 m2 m3) (fun q => rfl)
    (fun A B h k o hk ho => by rw [Below.block h k hk]; exact ho)
    (fun pre W => TabAt W tb (far pre) ∧ Below tb w3 W ∧ W.cell? ⟨ob, 0, none⟩ = some (.pointer (some ⟨tb, 0, none⟩))) (fun _ _ _ => False)
    (fun pre A B h k => ⟨h.1.below k (by omega), h.2.1.trans (k.mono (by omega)), (k.cell (p := ⟨ob, 0, none⟩) (by show ob < _; omega)).trans h.2.2⟩) (fun _ _ _ _ h _ => h.elim)
    (fun pre A B h k => ⟨h.1.below k.1 ht, h.2.1.trans (k.1.mono (by omega)), (k.1.cell (p := ⟨ob, 0, none⟩) hz).trans h.2.2⟩) (fun _ _ _ _ h _ => h.elim)
    ⟨t0, Below.refl _ _, o1⟩
    (fun (x : Pt × Nat) a' W => ∃ qb, w3.heap.size + 2 ≤ qb ∧ W.cell? ⟨qb, 0, none⟩ = some (.int .i64 x.1.1) ∧ W.cell? ⟨qb, 1, none⟩ = some (.int .i64 x.1.2) ∧ a' = { tmps := #[u0, u1, u2, u3, u4, .pointer (some ⟨ob, 0, none⟩), u6, u7, .pointer (some ⟨qb, 0, none⟩), .int .i64 x.2, u10, u11, u12, u13, u14, u15, u16, u17, u18, u19, u20, u21, u22, u23, u24, u25, u26, u27, .func (.func 78) #[] #[.pointer (some ⟨pb, 0, none⟩), .pointer (some ⟨gb, 0, none⟩)], .agg #[.int .i64 x.1.1, .int .i64 x.1.2], .int .i64 x.2, u31, u32, u33, u34, u35, u36, u37, u38, u39, u40], defers := [] })
    ?hax ?assign ?body (fun pre A B h k => ⟨h.1.ext k, h.2.1.trans (k.mono (by have := h.2.1.size; omega)), k.cell h.2.2⟩) ?done (fun _ _ _ _ _ _ _ h _ => h.elim)
  case hax =>
    rintro q a' A B ⟨qb, h1, h2, h3, h4⟩ hk
    exact ⟨qb, h1, hk.cell h2, hk.cell h3, h4⟩
  case assign =>
    simp only [Try.f49, rngOf, Option.getD, List.nil_append, List.append_nil] at hcode
    cases hcode
    intro l pre x W K hm hI hK
    clear HC
    gi_wp2
    exact hK _ _ ((Ext.refl _).alloc _) ⟨W.heap.size, by omega, by go_simp, by go_simp, rfl⟩
  case body =>
    simp only [Try.f49, rngOf, Option.getD, List.nil_append, List.append_nil] at hcode
    cases hcode
    rintro l pre x a' W hpre hm hI ⟨qb, hqb, q1, q2, rfl⟩
    have hxi : inside g x.1 = true := wave_inside hp x (hpre.subset (by simp))
    obtain ⟨r1, r2, r3, r4⟩ := inG_of HR.out hxi
    obtain ⟨hT, hB, hO⟩ := hI
    have c1 := (hT x.1 ⟨r1, r2, r3, r4⟩).1
    have c2 := (hT x.1 ⟨r1, r2, r3, r4⟩).2
    have HT := Lib.hid hT
    have HB := Lib.hid hB
    clear HC hT hB hp hr hxi hpre m3 hc t0 o1 p1 p2 g1 g2 g3
    gi_wp2
    refine round_tail 9 (by kernel_rfl) (by kernel_rfl) (by kernel_rfl) (fun ⟨_, _, h⟩ => h) ?_
    simp only [List.take_succ_cons, List.take_zero, List.drop_succ_cons, List.drop_zero]
    repeat still_step
    refine wpStill_nil ?_
    go_wp2
    have C : Chg (fun k => k = tb) W (W.setCell ⟨tb, x.1.1.toNat * 64 + x.1.2.toNat, none⟩ (.int .i64 x.2)).drew := (Chg.setCell (B := fun k => k = tb) ⟨tb, _, none⟩ _ rfl).trans (Chg.ext (Ext.refl _).drew)
    refine ⟨C.kept ?_, (C.others ?_).from _, (HT.out.set ⟨r1, r2, r3, r4⟩).ext (Ext.refl _).drew, (HB.out.setCell (p := ⟨tb, _, none⟩) (Nat.le_refl _) _).drew, ?_⟩
    · rintro k (⟨_, h⟩ | h) _ e
      · exact h e
      · omega
    · rintro k rfl o ho
      exact isCells_of_cell c1 ho
    · refine (Ext.refl _).drew.cell ?_
      rw [World.cell?_setCell_other _ _ _ _ (fun h => by simp only [Addr.mk.injEq] at h; omega)]
      exact hO
  case done =>
    rintro D W h1 h2 ⟨h3, h4, h5⟩ h6
    exact hdone D W h1 h2 h3 h4 h5 h6
end Go.Proofs.Ytfigooilhnahfaa
/- The table of distances. -/
namespace Go.Proofs.Ytfigooilhnahfaa
open Go.RowKit
attribute [local go_sem] Oper.semAt_some

theorem zero_tab : Try.zeroCells111 = Array.replicate 4096 (.int .i64 0) := by kernel_rfl

set_option maxHeartbeats 4000000 in
set_option maxRecDepth 100000 in
theorem distances_any (g : Gr) (p : Pt) (ga : Option Addr) (gc : Nat) (w : World) (hr : Right g) (hp : inside g p = true) (hc : Cells2 w ga g.bl) :
    Calls Try.prog 49 #[.agg #[.int .i64 g.rows, .int .i64 g.cols, .slice ga g.bl.length gc], .agg #[.int .i64 p.1, .int .i64 p.2]] w fun e w' => ∃ tb, e = .returned (.pointer (some ⟨tb, 0, none⟩)) ∧ TabAt w' tb (dst g p) ∧ Ext w w' := by
  have HR := Lib.hid hr
  have HC : Hid (Cells2 w ga g.bl) := hc
  have HP := Lib.hid hp
  clear hc hr hp
  refine (callsIn_wide (n := 0)).1 ?_
  refine callsIn_of_wp_marks Try.func49 rfl trivial ?_
  simp only [Try.ntmps49, List.size_toArray, List.length_cons, List.length_nil, Nat.reduceAdd, Nat.reduceSub, Array.replicate_succ, Array.replicate_zero, List.push_toArray, List.append_toArray, List.nil_append, List.cons_append]
  gi_wp2
  have E0 : Ext w ((((w.alloc (.cells #[.int .i64 g.rows, .int .i64 g.cols, .slice ga g.bl.length gc] 33)).alloc (.cells #[.int .i64 p.1, .int .i64 p.2] 26)).alloc (.cells Try.zeroCells111 111)).alloc (.cells #[.pointer (some ⟨w.heap.size + 1 + 1, 0, none⟩)] 86)) := ((((Ext.refl _).alloc _).alloc _).alloc _).alloc _
  have g1 : ((((w.alloc (.cells #[.int .i64 g.rows, .int .i64 g.cols, .slice ga g.bl.length gc] 33)).alloc (.cells #[.int .i64 p.1, .int .i64 p.2] 26)).alloc (.cells Try.zeroCells111 111)).alloc (.cells #[.pointer (some ⟨w.heap.size + 1 + 1, 0, none⟩)] 86)).cell? ⟨w.heap.size, 0, none⟩ = some (.int .i64 g.rows) := by go_simp
  have g2 : ((((w.alloc (.cells #[.int .i64 g.rows, .int .i64 g.cols, .slice ga g.bl.length gc] 33)).alloc (.cells #[.int .i64 p.1, .int .i64 p.2] 26)).alloc (.cells Try.zeroCells111 111)).alloc (.cells #[.pointer (some ⟨w.heap.size + 1 + 1, 0, none⟩)] 86)).cell? ⟨w.heap.size, 1, none⟩ = some (.int .i64 g.cols) := by go_simp
  have g3 : ((((w.alloc (.cells #[.int .i64 g.rows, .int .i64 g.cols, .slice ga g.bl.length gc] 33)).alloc (.cells #[.int .i64 p.1, .int .i64 p.2] 26)).alloc (.cells Try.zeroCells111 111)).alloc (.cells #[.pointer (some ⟨w.heap.size + 1 + 1, 0, none⟩)] 86)).cell? ⟨w.heap.size, 2, none⟩ = some (.slice ga g.bl.length gc) := by go_simp
  have p1 : ((((w.alloc (.cells #[.int .i64 g.rows, .int .i64 g.cols, .slice ga g.bl.length gc] 33)).alloc (.cells #[.int .i64 p.1, .int .i64 p.2] 26)).alloc (.cells Try.zeroCells111 111)).alloc (.cells #[.pointer (some ⟨w.heap.size + 1 + 1, 0, none⟩)] 86)).cell? ⟨w.heap.size + 1, 0, none⟩ = some (.int .i64 p.1) := by go_simp
  have p2 : ((((w.alloc (.cells #[.int .i64 g.rows, .int .i64 g.cols, .slice ga g.bl.length gc] 33)).alloc (.cells #[.int .i64 p.1, .int .i64 p.2] 26)).alloc (.cells Try.zeroCells111 111)).alloc (.cells #[.pointer (some ⟨w.heap.size + 1 + 1, 0, none⟩)] 86)).cell? ⟨w.heap.size + 1, 1, none⟩ = some (.int .i64 p.2) := by go_simp
  have o1 : ((((w.alloc (.cells #[.int .i64 g.rows, .int .i64 g.cols, .slice ga g.bl.length gc] 33)).alloc (.cells #[.int .i64 p.1, .int .i64 p.2] 26)).alloc (.cells Try.zeroCells111 111)).alloc (.cells #[.pointer (some ⟨w.heap.size + 1 + 1, 0, none⟩)] 86)).cell? ⟨w.heap.size + 1 + 1 + 1, 0, none⟩ = some (.pointer (some ⟨w.heap.size + 1 + 1, 0, none⟩)) := by go_simp
  have F0 : Hid (FillAt ((((w.alloc (.cells #[.int .i64 g.rows, .int .i64 g.cols, .slice ga g.bl.length gc] 33)).alloc (.cells #[.int .i64 p.1, .int .i64 p.2] 26)).alloc (.cells Try.zeroCells111 111)).alloc (.cells #[.pointer (some ⟨w.heap.size + 1 + 1, 0, none⟩)] 86)) (w.heap.size + 1 + 1) 0) := fun k hk => by
    have h1 : (((w.alloc (.cells #[.int .i64 g.rows, .int .i64 g.cols, .slice ga g.bl.length gc] 33)).alloc (.cells #[.int .i64 p.1, .int .i64 p.2] 26)).alloc (.cells Try.zeroCells111 111)).cell? ⟨w.heap.size + 1 + 1, k, none⟩ = some (.int .i64 0) := by
      have := World.cell?_alloc_new ((w.alloc (.cells #[.int .i64 g.rows, .int .i64 g.cols, .slice ga g.bl.length gc] 33)).alloc (.cells #[.int .i64 p.1, .int .i64 p.2] 26)) Try.zeroCells111 111 k
      rw [World.size_alloc, World.size_alloc] at this
      rw [this, zero_tab, Array.getElem?_replicate, if_pos hk]
    refine ⟨?_, ?_⟩
    · rw [if_neg (by omega)]
      exact ((Ext.refl _).alloc _).cell h1
    · refine (Below.frozen ((Ext.refl _).alloc _) (p := ⟨w.heap.size + 1 + 1, k, none⟩) (cell_lt h1)).trans ?_
      have := World.frozen?_alloc_new ((w.alloc (.cells #[.int .i64 g.rows, .int .i64 g.cols, .slice ga g.bl.length gc] 33)).alloc (.cells #[.int .i64 p.1, .int .i64 p.2] 26)) Try.zeroCells111 111 k
      rwa [World.size_alloc, World.size_alloc] at this
  generalize (((w.alloc (.cells #[.int .i64 g.rows, .int .i64 g.cols, .slice ga g.bl.length gc] 33)).alloc (.cells #[.int .i64 p.1, .int .i64 p.2] 26)).alloc (.cells Try.zeroCells111 111)).alloc (.cells #[.pointer (some ⟨w.heap.size + 1 + 1, 0, none⟩)] 86) = W at E0 g1 g2 g3 p1 p2 o1 F0 ⊢
  have HB : Hid (g.bl ≠ [] → ∀ b off, ga = some ⟨b, off, none⟩ → b < w.heap.size) := fun hne b off hb => HC.out.lt hne hb
  have zo : w.heap.size + 1 + 1 + 1 < W.heap.size := cell_lt o1
  gi_loopw [12] (fun i wr => ∃ r : Nat, r ≤ 64 ∧ i = .int .i64 r ∧ Hid (FillAt wr (w.heap.size + 1 + 1) (r * 64)) ∧ Hid (Below (w.heap.size + 1 + 1) W wr) ∧ wr.cell? ⟨w.heap.size + 1 + 1 + 1, 0, none⟩ = some (.pointer (some ⟨w.heap.size + 1 + 1, 0, none⟩))) (fun i _ => 64 - (intOf i).toNat)
  case atStart => exact ⟨0, by omega, rfl, F0, Below.refl _ _, o1⟩
  case round =>
    obtain ⟨r, hr, rfl, hf, hb, ho⟩ := hrel
    by_cases hlt : r < 64
    · have hlt' : (r : Int) < 64 := by omega
      gi_wp2
      gi_loopw [15] (fun i wr => ∃ c : Nat, c ≤ 64 ∧ i = .int .i64 c ∧ Hid (FillAt wr (w.heap.size + 1 + 1) (r * 64 + c)) ∧ Hid (Below (w.heap.size + 1 + 1) W wr) ∧ wr.cell? ⟨w.heap.size + 1 + 1 + 1, 0, none⟩ = some (.pointer (some ⟨w.heap.size + 1 + 1, 0, none⟩))) (fun i _ => 64 - (intOf i).toNat)
      case atStart => exact ⟨0, by omega, rfl, hf, hb, ho⟩
      case round =>
        clear hf hb ho
        obtain ⟨c, hc, rfl, hf, hb, ho⟩ := hrel
        by_cases hlc : c < 64
        · have hlc' : (c : Int) < 64 := by omega
          have k1 := (hf.out (r * 64 + c) (by omega)).1
          have k2 := (hf.out (r * 64 + c) (by omega)).2
          gi_wp2
          have HS : FillAt (wr.setCell ⟨w.heap.size + 1 + 1, r * 64 + c, none⟩ (.int .i64 (-1))) (w.heap.size + 1 + 1) (r * 64 + (c + 1)) := by
            have := hf.out.set (show r * 64 + c < 4096 by omega)
            rwa [show r * 64 + c + 1 = r * 64 + (c + 1) from by omega] at this
          refine ⟨⟨c + 1, by omega, by go_num, HS, hb.out.setCell (p := ⟨_, _, none⟩) (Nat.le_refl _) _, ?_⟩, by simp [intOf]; omega⟩
          rw [World.cell?_setCell_other _ _ _ _ (fun h => by simp only [Addr.mk.injEq] at h; omega)]
          exact ho
        · have hlc' : ¬ (c : Int) < 64 := by omega
          gi_wp2
          have hc64 : c = 64 := by omega
          subst hc64
          refine ⟨⟨r + 1, by omega, by go_num, by unfold Hid; rw [show (r + 1) * 64 = r * 64 + 64 from by omega]; exact hf.out, hb, ho⟩, by simp [intOf]; omega⟩
    · have hlt' : ¬ (r : Int) < 64 := by omega
      have hr64 : r = 64 := by omega
      subst hr64
      have g1' : wr.cell? ⟨w.heap.size, 0, none⟩ = some (.int .i64 g.rows) := (hb.out.cell (p := ⟨_, 0, none⟩) (by dsimp only; omega)).trans g1
      have g2' : wr.cell? ⟨w.heap.size, 1, none⟩ = some (.int .i64 g.cols) := (hb.out.cell (p := ⟨_, 1, none⟩) (by dsimp only; omega)).trans g2
      have g3' : wr.cell? ⟨w.heap.size, 2, none⟩ = some (.slice ga g.bl.length gc) := (hb.out.cell (p := ⟨_, 2, none⟩) (by dsimp only; omega)).trans g3
      have p1' : wr.cell? ⟨w.heap.size + 1, 0, none⟩ = some (.int .i64 p.1) := (hb.out.cell (p := ⟨_, 0, none⟩) (by dsimp only; omega)).trans p1
      have p2' : wr.cell? ⟨w.heap.size + 1, 1, none⟩ = some (.int .i64 p.2) := (hb.out.cell (p := ⟨_, 1, none⟩) (by dsimp only; omega)).trans p2
      have HCr : Hid (Cells2 wr ga g.bl) := Cells2.kept (Kd := fun k => k < w.heap.size + 1 + 1) (n := 0) ⟨hb.out.size, fun k o hk ho _ => by rw [hb.out.block k hk]; exact ho⟩ (fun b off hb hne => by have := HB.out hne b off hb; show _ < _; omega) (HC.out.ext E0)
      have TT := Lib.hid hf.out.tab
      have zr : w.heap.size + 1 + 1 + 1 < wr.heap.size := cell_lt ho
      clear g1 g2 g3 p1 p2 o1 F0
      gi_wp2_with (refine ⟨trivial, rfl, ?_⟩; gi_at_call 61; refine (callsIn_wide.2 (wave_any g p _ _)).mono ?_; rintro e w3 ⟨rfl, hw3⟩)
      have E6 : Ext wr w3 := by rw [← hw3]; exact ((Ext.refl _).alloc _).alloc _
      have G1 : w3.cell? ⟨wr.heap.size, 0, none⟩ = some (.int .i64 g.rows) := by rw [← hw3, World.cell?_alloc2_first]; rfl
      have G2 : w3.cell? ⟨wr.heap.size, 1, none⟩ = some (.int .i64 g.cols) := by rw [← hw3, World.cell?_alloc2_first]; rfl
      have G3 : w3.cell? ⟨wr.heap.size, 2, none⟩ = some (.slice ga g.bl.length gc) := by rw [← hw3, World.cell?_alloc2_first]; rfl
      have P1 : w3.cell? ⟨wr.heap.size + 1, 0, none⟩ = some (.int .i64 p.1) := by rw [← hw3, World.cell?_alloc2_new]; rfl
      have P2 : w3.cell? ⟨wr.heap.size + 1, 1, none⟩ = some (.int .i64 p.2) := by rw [← hw3, World.cell?_alloc2_new]; rfl
      refine wpIn_wide.2 (dist_range _ _ rfl g p ga gc w3 (wr.heap.size + 1) wr.heap.size (w.heap.size + 1 + 1 + 1) (w.heap.size + 1 + 1) HR.out HP.out P1 P2 G1 G2 G3 (HCr.out.ext E6) (by omega) (by omega)
        (fun hne b off h => by have := HB.out hne b off h; omega) (by omega) (E6.cell ho) (TT.out.ext E6) _ _ _ _ _ _ _ _ _ _ _ _ _ _ _ _ _ _ _ _ _ _ _ _ _ _ _ _ _ _ _ _ _ _ _ _ _ _ _ [] _ ?_)
      intro D w4 k1 k2 k3 k4 k5 k6
      gi_wp2
      refine leaves_marks (n := w3.heap.size) (v := .pointer (some ⟨w.heap.size + 1 + 1, 0, none⟩)) (fun w => (results_tmp (t := 4) rfl _ _ _).trans rfl) _ _ (Marks.cons (A := w3) (Marks.nil _ _) k1 k1 (Marks.nil _ _) k6) (fun w' hw' => ?_)
      have hz3 : w.heap.size + 1 + 1 < w3.heap.size := by have := E6.size; omega
      refine ⟨_, rfl, k3.below hw' hz3, ?_⟩
      have hzw : w.heap.size ≤ w.heap.size + 1 + 1 := by omega
      refine Below.trans E0 ?_
      refine Below.trans (hb.out.mono hzw) ?_
      refine Below.trans (E6.mono (by omega)) ?_
      exact Below.trans (k4.mono hzw) (hw'.mono (by omega))
end Go.Proofs.Ytfigooilhnahfaa
/- Length. -/
namespace Go.Proofs.Ytfigooilhnahfaa
open Go.RowKit

theorem cells_ok {g : Gr} : ∀ {l : List Pt}, cellsErr g l = 0 → ∀ p ∈ l, opn g p = true := by
  intro l
  induction l with
  | nil => intro _ p hp; cases hp
  | cons a l ih =>
    intro h p hp
    unfold cellsErr at h
    split at h
    · omega
    · split at h
      · omega
      · rename_i h1 h2
        rcases List.mem_cons.1 hp with rfl | hp
        · unfold opn; simp at h1 h2; simp [h1, h2]
        · exact ih h p hp
theorem given_ok {g : Gr} {l : List Pt} (h : givenErr g l = 0) : Right g ∧ ∀ p ∈ l, opn g p = true := by
  unfold givenErr at h
  split at h
  · rename_i h1; exact absurd h h1
  · rename_i h1
    exact ⟨right_of_chk (by simpa using h1), cells_ok h⟩
theorem opn_inside {g : Gr} {p : Pt} (h : opn g p = true) : inside g p = true := by
  unfold opn at h
  simp only [Bool.and_eq_true] at h
  exact h.1
theorem cells2_two {w : World} {b : Nat} {p q : Pt} (h1 : w.cell? ⟨b, 0, none⟩ = some (.int .i64 p.1)) (h2 : w.cell? ⟨b, 1, none⟩ = some (.int .i64 p.2)) (h3 : w.cell? ⟨b, 2, none⟩ = some (.int .i64 q.1)) (h4 : w.cell? ⟨b, 3, none⟩ = some (.int .i64 q.2)) :
    Cells2 w (some ⟨b, 0, none⟩) [p, q] := fun i hi => by
  have : i = 0 ∨ i = 1 := by simp at hi; omega
  rcases this with rfl | rfl
  · exact ⟨b, 0, rfl, by simpa [pt] using h1, by simpa [pt] using h2⟩
  · exact ⟨b, 0, rfl, by simpa [pt] using h3, by simpa [pt] using h4⟩

def lenN (g : Gr) (p q : Pt) : Int := if givenErr g [p, q] ≠ 0 then 0 else if dst g q p < 0 then 0 else dst g q p
def lenE (g : Gr) (p q : Pt) : Int := if givenErr g [p, q] ≠ 0 then givenErr g [p, q] else if dst g q p < 0 then 6 else 0

theorem len_ok {g : Gr} {p q : Pt} (h : givenErr g [p, q] = 0) {neg : Bool} (hn : decide (dst g q p < 0) = neg) : lenN g p q = (if neg = true then 0 else dst g q p) ∧ lenE g p q = (if neg = true then 6 else 0) := by
  unfold lenN lenE
  rw [h]
  cases neg
  · have hn' : ¬ dst g q p < 0 := by simpa using hn
    rw [if_neg hn', if_neg hn']
    exact ⟨rfl, rfl⟩
  · have hn' : dst g q p < 0 := by simpa using hn
    rw [if_pos hn', if_pos hn']
    exact ⟨rfl, rfl⟩

set_option maxHeartbeats 4000000 in
set_option maxRecDepth 100000 in
theorem Length_any (g : Gr) (p q : Pt) (ga : Option Addr) (gc : Nat) (w : World) (hg : g.bl.length ≤ maxLen) (hc : Cells2 w ga g.bl) :
    Calls Try.prog 27 #[.agg #[.int .i64 g.rows, .int .i64 g.cols, .slice ga g.bl.length gc], .agg #[.int .i64 p.1, .int .i64 p.2], .agg #[.int .i64 q.1, .int .i64 q.2]] w fun e w' => e = .returned (.tuple #[.int .i64 (lenN g p q), .int .i64 (lenE g p q)]) ∧ Ext w w' := by
  have HC : Hid (Cells2 w ga g.bl) := hc
  have HG := Lib.hid hg
  clear hc hg
  by_cases h0 : givenErr g [p, q] = 0
  · obtain ⟨hr, ho⟩ := given_ok h0
    have HR := Lib.hid hr
    have HQ : Hid (inside g q = true) := opn_inside (ho q (by simp))
    have HP : Hid (inside g p = true) := opn_inside (ho p (by simp))
    obtain ⟨r1, r2, r3, r4⟩ := inG_of hr HP.out
    have H0 := Lib.hid h0
    clear hr ho h0
    have main : ∀ (neg : Bool), Hid (decide (dst g q p < 0) = neg) → Calls Try.prog 27 #[.agg #[.int .i64 g.rows, .int .i64 g.cols, .slice ga g.bl.length gc], .agg #[.int .i64 p.1, .int .i64 p.2], .agg #[.int .i64 q.1, .int .i64 q.2]] w fun e w' => e = .returned (.tuple #[.int .i64 (if neg then 0 else dst g q p), .int .i64 (if neg then 6 else 0)]) ∧ Ext w w' := by
      intro neg hneg
      have E0 : Ext w ((( (( ((w).alloc (.cells #[.int .i64 g.rows, .int .i64 g.cols, .slice ga g.bl.length gc] 33))).alloc (.cells #[.int .i64 p.1, .int .i64 p.2] 26))).alloc (.cells #[.int .i64 q.1, .int .i64 q.2] 26))) := (((Ext.refl _).alloc _).alloc _).alloc _
      have a1 : ((( (( ((w).alloc (.cells #[.int .i64 g.rows, .int .i64 g.cols, .slice ga g.bl.length gc] 33))).alloc (.cells #[.int .i64 p.1, .int .i64 p.2] 26))).alloc (.cells #[.int .i64 q.1, .int .i64 q.2] 26))).cell? ⟨w.heap.size, 0, none⟩ = some (.int .i64 g.rows) := by go_simp
      have a2 : ((( (( ((w).alloc (.cells #[.int .i64 g.rows, .int .i64 g.cols, .slice ga g.bl.length gc] 33))).alloc (.cells #[.int .i64 p.1, .int .i64 p.2] 26))).alloc (.cells #[.int .i64 q.1, .int .i64 q.2] 26))).cell? ⟨w.heap.size, 1, none⟩ = some (.int .i64 g.cols) := by go_simp
      have a3 : ((( (( ((w).alloc (.cells #[.int .i64 g.rows, .int .i64 g.cols, .slice ga g.bl.length gc] 33))).alloc (.cells #[.int .i64 p.1, .int .i64 p.2] 26))).alloc (.cells #[.int .i64 q.1, .int .i64 q.2] 26))).cell? ⟨w.heap.size, 2, none⟩ = some (.slice ga g.bl.length gc) := by go_simp
      have a4 : ((( (( ((w).alloc (.cells #[.int .i64 g.rows, .int .i64 g.cols, .slice ga g.bl.length gc] 33))).alloc (.cells #[.int .i64 p.1, .int .i64 p.2] 26))).alloc (.cells #[.int .i64 q.1, .int .i64 q.2] 26))).cell? ⟨w.heap.size + 1, 0, none⟩ = some (.int .i64 p.1) := by go_simp
      have a5 : ((( (( ((w).alloc (.cells #[.int .i64 g.rows, .int .i64 g.cols, .slice ga g.bl.length gc] 33))).alloc (.cells #[.int .i64 p.1, .int .i64 p.2] 26))).alloc (.cells #[.int .i64 q.1, .int .i64 q.2] 26))).cell? ⟨w.heap.size + 1, 1, none⟩ = some (.int .i64 p.2) := by go_simp
      have a6 : ((( (( ((w).alloc (.cells #[.int .i64 g.rows, .int .i64 g.cols, .slice ga g.bl.length gc] 33))).alloc (.cells #[.int .i64 p.1, .int .i64 p.2] 26))).alloc (.cells #[.int .i64 q.1, .int .i64 q.2] 26))).cell? ⟨w.heap.size + 1 + 1, 0, none⟩ = some (.int .i64 q.1) := by go_simp
      have a7 : ((( (( ((w).alloc (.cells #[.int .i64 g.rows, .int .i64 g.cols, .slice ga g.bl.length gc] 33))).alloc (.cells #[.int .i64 p.1, .int .i64 p.2] 26))).alloc (.cells #[.int .i64 q.1, .int .i64 q.2] 26))).cell? ⟨w.heap.size + 1 + 1, 1, none⟩ = some (.int .i64 q.2) := by go_simp
      go_enter Try.func27, Try.ntmps27
      go_wp2_with fail
      refine (given_any g [p, q] ga gc _ _ _ HG.out (HC.out.ext (E0.alloc _)) (by simp [maxLen]) (cells2_two (by go_simp) (by go_simp) (by go_simp) (by go_simp))).mono ?_
      rintro e w1 ⟨rfl, hE⟩
      rw [H0.out]
      have E1 : Ext ((( (( ((w).alloc (.cells #[.int .i64 g.rows, .int .i64 g.cols, .slice ga g.bl.length gc] 33))).alloc (.cells #[.int .i64 p.1, .int .i64 p.2] 26))).alloc (.cells #[.int .i64 q.1, .int .i64 q.2] 26))) w1 := ((Ext.refl _).alloc _).trans hE
      have b1 := E1.cell a1
      have b2 := E1.cell a2
      have b3 := E1.cell a3
      have b4 := E1.cell a4
      have b5 := E1.cell a5
      have b6 := E1.cell a6
      have b7 := E1.cell a7
      have E2 : Ext w w1 := E0.trans E1
      have z1 : w.heap.size < w1.heap.size := cell_lt b1
      have z2 : w.heap.size + 1 < w1.heap.size := cell_lt b4
      have z3 : w.heap.size + 1 + 1 < w1.heap.size := cell_lt b6
      clear hE E1 E0 a1 a2 a3 a4 a5 a6 a7
      go_wp2_with fail
      refine wp_region_held_drew (S := fun w' => Sees w1 w') (by kernel_rfl) (by repeat (first | exact Sees.refl _ | assumption | apply Sees.drew)) (fun hHeld => ?_)
      ((refine wpAnyH_take (i := 0) (oi := ?_) (v := ?_) ?_ (by kernel_rfl) (by kernel_rfl) (by kernel_rfl) ?_ ?_ (by assumption) ?_; rotate_left 2; (focus ((simp only [List.getElem?_toArray, List.getElem?_cons_zero]; exact rfl))); (focus (exact fun _ _ _ h => h)); (focus (refine Or.inl ⟨by rfl, ?_⟩; intro w hSw; (try dsimp only at hSw); (first | (go_simp; done) | (go_simp; with_reducible rfl)))); (try simp only [Act.put, List.setIfInBounds_toArray, List.set_cons_zero, List.set_cons_succ])); (refine wpAnyH_take (i := 1) (oi := ?_) (v := ?_) ?_ (by kernel_rfl) (by kernel_rfl) (by kernel_rfl) ?_ ?_ (by assumption) ?_; rotate_left 2; (focus ((simp only [List.getElem?_toArray, List.getElem?_cons_succ, List.getElem?_cons_zero]; exact rfl))); (focus (exact fun _ _ _ h => h)); (focus (refine Or.inl ⟨by rfl, ?_⟩; intro w hSw; (try dsimp only at hSw); (first | (go_simp; done) | (go_simp; with_reducible rfl)))); (try simp only [Act.put, List.setIfInBounds_toArray, List.set_cons_zero, List.set_cons_succ])); (refine wpAnyH_take (i := 3) (oi := ?_) (v := ?_) ?_ (by kernel_rfl) (by kernel_rfl) (by kernel_rfl) ?_ ?_ (by assumption) ?_; rotate_left 2; (focus ((simp only [List.getElem?_toArray, List.getElem?_cons_succ, List.getElem?_cons_zero]; exact rfl))); (focus (exact fun _ _ _ h => h)); (focus (refine Or.inl ⟨by rfl, ?_⟩; intro w hSw; (try dsimp only at hSw); (first | (go_simp; done) | (go_simp; with_reducible rfl)))); (try simp only [Act.put, List.setIfInBounds_toArray, List.set_cons_zero, List.set_cons_succ])); (refine wpAnyH_take (i := 4) (oi := ?_) (v := ?_) ?_ (by kernel_rfl) (by kernel_rfl) (by kernel_rfl) ?_ ?_ (by assumption) ?_; rotate_left 2; (focus ((simp only [List.getElem?_toArray, List.getElem?_cons_succ, List.getElem?_cons_zero]; exact rfl))); (focus (exact fun _ _ _ h => h)); (focus (refine Or.inl ⟨by rfl, ?_⟩; intro w hSw; (try dsimp only at hSw); (first | (go_simp; done) | (go_simp; with_reducible rfl)))); (try simp only [Act.put, List.setIfInBounds_toArray, List.set_cons_zero, List.set_cons_succ])); (refine wpAnyH_take (i := 5) (oi := ?_) (v := ?_) ?_ (by kernel_rfl) (by kernel_rfl) (by kernel_rfl) ?_ ?_ (by assumption) ?_; rotate_left 2; (focus ((simp only [List.getElem?_toArray, List.getElem?_cons_succ, List.getElem?_cons_zero]; exact rfl))); (focus (exact fun _ _ _ h => h)); (focus (refine Or.inl ⟨by rfl, ?_⟩; intro w hSw; (try dsimp only at hSw); (first | (go_simp; done) | (go_simp; with_reducible rfl)))); (try simp only [Act.put, List.setIfInBounds_toArray, List.set_cons_zero, List.set_cons_succ])); (refine wpAnyH_take (i := 6) (oi := ?_) (v := ?_) ?_ (by kernel_rfl) (by kernel_rfl) (by kernel_rfl) ?_ ?_ (by assumption) ?_; rotate_left 2; (focus ((simp only [List.getElem?_toArray, List.getElem?_cons_succ, List.getElem?_cons_zero]; exact rfl))); (focus (exact fun _ _ _ h => h)); (focus (refine Or.inl ⟨by rfl, ?_⟩; intro w hSw; (try dsimp only at hSw); (first | (go_simp; done) | (go_simp; with_reducible rfl)))); (try simp only [Act.put, List.setIfInBounds_toArray, List.set_cons_zero, List.set_cons_succ])))
      (refine wpAnyH_ready (rs := [2]) (by kernel_rfl) (by simp) ?_; refine AllReadyH.cons (o := ?_) ?_ (fun K hK => ?_) AllReadyH.nil; rotate_left; (focus ((simp only [List.getElem?_toArray, List.getElem?_cons_succ, List.getElem?_cons_zero]; exact rfl))); go_simp; go_at_call 49; refine (distances_any g q ga gc _ HR.out HQ.out (HC.out.ext (E2.trans (by exact (show Sees w1 _ by assumption).2.2)))).mono ?_; rintro e w' ⟨tb, rfl, hT, hE2⟩; have c1 := (hT p ⟨r1, r2, r3, r4⟩).1; go_wp2_with fail; refine hK.out _ _ (by repeat (first | exact Sees.refl _ | assumption | apply Sees.drew | (refine Sees.ext ?_ (by assumption)))) (fun hHeld => ?_); clear hK K; (try simp only [Act.put, List.setIfInBounds_toArray, List.set_cons_zero, List.set_cons_succ]))
      ((refine wpAnyH_take (i := 7) (oi := ?_) (v := ?_) ?_ (by kernel_rfl) (by kernel_rfl) (by kernel_rfl) ?_ ?_ (by assumption) ?_; rotate_left 2; (focus ((simp only [List.getElem?_toArray, List.getElem?_cons_succ, List.getElem?_cons_zero]; exact rfl))); (focus (exact fun _ _ _ h => h)); (focus (refine Or.inl ⟨by rfl, ?_⟩; intro w hSw; (try dsimp only at hSw); (first | (go_simp; done) | (go_simp; with_reducible rfl)))); (try simp only [Act.put, List.setIfInBounds_toArray, List.set_cons_zero, List.set_cons_succ])); (refine wpAnyH_take (i := 8) (oi := ?_) (v := ?_) ?_ (by kernel_rfl) (by kernel_rfl) (by kernel_rfl) ?_ ?_ (by assumption) ?_; rotate_left 2; (focus ((simp only [List.getElem?_toArray, List.getElem?_cons_succ, List.getElem?_cons_zero]; exact rfl))); (focus (exact fun _ _ _ h => h)); (focus (refine Or.inl ⟨by rfl, ?_⟩; intro w hSw; (try dsimp only at hSw); (first | (go_simp; done) | (go_simp; with_reducible rfl)))); (try simp only [Act.put, List.setIfInBounds_toArray, List.set_cons_zero, List.set_cons_succ])); (refine wpAnyH_take (i := 9) (oi := ?_) (v := ?_) ?_ (by kernel_rfl) (by kernel_rfl) (by kernel_rfl) ?_ ?_ (by assumption) ?_; rotate_left 2; (focus ((simp only [List.getElem?_toArray, List.getElem?_cons_succ, List.getElem?_cons_zero]; exact rfl))); (focus (exact fun _ _ _ h => h)); (focus (refine Or.inl ⟨by rfl, ?_⟩; intro w hSw; (try dsimp only at hSw); (first | (go_simp; done) | (go_simp; with_reducible rfl)))); (try simp only [Act.put, List.setIfInBounds_toArray, List.set_cons_zero, List.set_cons_succ])))
      (refine wpAnyH_ready (rs := [10]) (by kernel_rfl) (by simp) ?_; refine AllReadyH.cons (o := ?_) ?_ (fun K hK => ?_) AllReadyH.nil; rotate_left; (focus ((simp only [List.getElem?_toArray, List.getElem?_cons_succ, List.getElem?_cons_zero]; exact rfl))); go_simp; refine hK.out _ _ (by repeat (first | exact Sees.refl _ | assumption | apply Sees.drew | (refine Sees.ext ?_ (by assumption)))) (fun hHeld => ?_); clear hK K; (try simp only [Act.put, List.setIfInBounds_toArray, List.set_cons_zero, List.set_cons_succ]))
      ((refine wpAnyH_take (i := 11) (oi := ?_) (v := ?_) ?_ (by kernel_rfl) (by kernel_rfl) (by kernel_rfl) ?_ ?_ (by assumption) ?_; rotate_left 2; (focus ((simp only [List.getElem?_toArray, List.getElem?_cons_succ, List.getElem?_cons_zero]; exact rfl))); (focus (exact fun _ _ _ h => h)); (focus (refine Or.inl ⟨by rfl, ?_⟩; intro w hSw; (try dsimp only at hSw); (first | (go_simp; done) | (go_simp; with_reducible rfl)))); (try simp only [Act.put, List.setIfInBounds_toArray, List.set_cons_zero, List.set_cons_succ])))
      refine wpAnyH_done (by kernel_rfl) ?_ _
      have hS := (show Sees w1 _ by assumption).2.2
      cases neg
      · have hd : ¬ dst g q p < 0 := by simpa using hneg.out
        go_wp2
        go_ret2
        exact ⟨rfl, E2.trans hS⟩
      · have hd : dst g q p < 0 := by simpa using hneg.out
        go_wp2
        go_ret2
        exact ⟨rfl, E2.trans hS⟩
    obtain ⟨e1, e2⟩ := len_ok H0.out (neg := decide (dst g q p < 0)) rfl
    rw [e1, e2]
    exact main _ rfl
  · have hn : Hid (lenN g p q = 0 ∧ lenE g p q = givenErr g [p, q]) := by
      show _ ∧ _
      unfold lenN lenE
      rw [if_pos h0, if_pos h0]
      exact ⟨rfl, rfl⟩
    have hb : (givenErr g [p, q] != 0) = true := by simp [h0]
    have hb2 : (givenErr g [p, q] == 0) = false := by simp [h0]
    clear h0
    go_enter Try.func27, Try.ntmps27
    go_wp2_with fail
    have E0 : Ext w (((( (( ((w).alloc (.cells #[.int .i64 g.rows, .int .i64 g.cols, .slice ga g.bl.length gc] 33))).alloc (.cells #[.int .i64 p.1, .int .i64 p.2] 26))).alloc (.cells #[.int .i64 q.1, .int .i64 q.2] 26))).alloc (.cells #[.int .i64 p.1, .int .i64 p.2, .int .i64 q.1, .int .i64 q.2] 26)) := ((((Ext.refl _).alloc _).alloc _).alloc _).alloc _
    refine (given_any g [p, q] ga gc _ _ _ HG.out (HC.out.ext E0) (by simp [maxLen]) (cells2_two (by go_simp) (by go_simp) (by go_simp) (by go_simp))).mono ?_
    rintro e w1 ⟨rfl, hE⟩
    go_wp2
    go_ret2
    rw [hn.out.1, hn.out.2]
    exact ⟨rfl, E0.trans hE⟩
end Go.Proofs.Ytfigooilhnahfaa
/- at, sent, Wall of the law's package; results that lie in memory. -/
namespace Go.Proofs.Ytfigooilhnahfaa
open Go.RowKit

theorem results_cell1 {fn : Func} {p : Tmp} {ty : TypeId} (h : fn.results = #[.cell p ty]) (tmps : Array Value) (P : Program) (w : World) :
    (results fn tmps).run P w = ((asAddr (tmps.getD p undef)).run P w).andThen fun a w₁ => (loadVar ty a).run P w₁ := by
  simp only [results, h]
  simp [Sem.run_bind, Result.andThen]
theorem results_cell_tmp2 {fn : Func} {p u v : Tmp} {ty : TypeId} (h : fn.results = #[.cell p ty, .tmp u, .tmp v]) (tmps : Array Value) (P : Program) (w : World) :
    (results fn tmps).run P w =
      ((asAddr (tmps.getD p undef)).run P w).andThen fun a w₁ => ((loadVar ty a).run P w₁).andThen fun x w₂ => .ok (.tuple #[x, tmps.getD u undef, tmps.getD v undef]) w₂ := by
  simp only [results, h]
  simp [Sem.run_bind, Result.andThen]

theorem Ext.frozen {w w' : World} (h : Ext w w') {p : Addr} (hp : p.block < w.heap.size) : w'.frozen? p = w.frozen? p := Below.frozen h hp

theorem Sees.store {W w' X : World} (h : Sees W w') (hx : Sees W X) (o : Nat) (v : Value) : Sees W (w'.setCell ⟨X.heap.size, o, none⟩ v) := sees (Below.setCell (p := ⟨X.heap.size, o, none⟩) h.2.2 hx.2.2.size v)
theorem new2_c0 (w : World) (a b : Value) (t : TypeId) : (w.alloc (.cells #[a, b] t)).cell? ⟨w.heap.size, 0, none⟩ = some a := by rw [World.cell?_alloc_new]; rfl
theorem new2_c1 (w : World) (a b : Value) (t : TypeId) : (w.alloc (.cells #[a, b] t)).cell? ⟨w.heap.size, 1, none⟩ = some b := by rw [World.cell?_alloc_new]; rfl
theorem new2_f (w : World) (a b : Value) (t : TypeId) (i : Nat) : (w.alloc (.cells #[a, b] t)).frozen? ⟨w.heap.size, i, none⟩ = false := World.frozen?_alloc_new _ _ _ _
/-- a new block of two cells is there behind a call -/
structure New2 (w : World) (pb : Nat) (a b : Value) : Prop where
  c0 : w.cell? ⟨pb, 0, none⟩ = some a
  c1 : w.cell? ⟨pb, 1, none⟩ = some b
  f0 : w.frozen? ⟨pb, 0, none⟩ = false
  f1 : w.frozen? ⟨pb, 1, none⟩ = false
theorem New2.ext {A B : World} {pb : Nat} {a b : Value} (h : New2 A pb a b) (x : Ext A B) : New2 B pb a b :=
  ⟨x.cell h.c0, x.cell h.c1, (x.frozen (p := ⟨pb, 0, none⟩) (cell_lt h.c0)).trans h.f0, (x.frozen (p := ⟨pb, 1, none⟩) (cell_lt h.c1)).trans h.f1⟩
theorem New2.made (w : World) (a b : Value) (t : TypeId) : New2 (w.alloc (.cells #[a, b] t)) w.heap.size a b := ⟨new2_c0 _ _ _ _, new2_c1 _ _ _ _, new2_f _ _ _ _ _, new2_f _ _ _ _ _⟩
theorem New2.drew {w : World} {pb : Nat} {a b : Value} (h : New2 w pb a b) : New2 w.drew pb a b := h.ext (Ext.refl _).drew

theorem at_any (a b : Int) (w : World) :
    Calls Try.prog 45 #[.int .i64 a, .int .i64 b] w fun e w' => e = .returned (.agg #[.int .i64 a, .int .i64 b]) ∧ Ext w w' := by
  go_enter Try.func45, Try.ntmps45
  go_wp2
  try simp only [Exit.inBlock, Exit.then]
  refine bodyPost_ret (v := .agg #[.int .i64 a, .int .i64 b]) (by rw [results_cell1 rfl]; go_simp) rfl ⟨rfl, (Ext.refl _).alloc _⟩
theorem sent_any (g : Gr) (ga : Option Addr) (gc : Nat) (w : World) :
    Calls Try.prog 15 #[.agg #[.int .i64 g.rows, .int .i64 g.cols, .slice ga g.bl.length gc]] w fun e w' => e = .returned (.agg #[.int .i64 g.rows, .int .i64 g.cols, .slice ga g.bl.length gc]) ∧ Ext w w' := by
  go_enter Try.func15, Try.ntmps15
  go_wp2
  try simp only [Exit.inBlock, Exit.then]
  refine bodyPost_ret (v := .agg #[.int .i64 g.rows, .int .i64 g.cols, .slice ga g.bl.length gc]) (by rw [results_cell1 rfl]; go_simp) rfl ⟨rfl, ((Ext.refl _).alloc _).alloc _⟩

def wallG : Gr := ⟨3, 4, [(1, 1), (1, 2)]⟩
theorem Wall_any (w : World) :
    Calls Try.prog 44 #[] w fun e w' => ∃ a, e = .returned (.agg #[.int .i64 3, .int .i64 4, .slice a 2 2]) ∧ Cells2 w' a wallG.bl ∧ Ext w w' := by
  go_enter Try.func44, Try.ntmps44
  go_wp2_with fail
  refine (at_any 1 1 _).mono ?_
  rintro e w1 ⟨rfl, hE⟩
  have E1 : Ext w w1 := ((Ext.refl w).alloc _).trans hE
  have c1 : w1.cell? ⟨w.heap.size, 0, none⟩ = some (.int .i64 0) := hE.cell (by go_simp)
  have c2 : w1.cell? ⟨w.heap.size, 1, none⟩ = some (.int .i64 0) := hE.cell (by go_simp)
  have c3 : w1.cell? ⟨w.heap.size, 2, none⟩ = some (.slice none 0 0) := hE.cell (by go_simp)
  have f1 : w1.frozen? ⟨w.heap.size, 0, none⟩ = false := (hE.frozen (p := ⟨w.heap.size, 0, none⟩) (by simp)).trans (by go_simp)
  have f2 : w1.frozen? ⟨w.heap.size, 1, none⟩ = false := (hE.frozen (p := ⟨w.heap.size, 1, none⟩) (by simp)).trans (by go_simp)
  have f3 : w1.frozen? ⟨w.heap.size, 2, none⟩ = false := (hE.frozen (p := ⟨w.heap.size, 2, none⟩) (by simp)).trans (by go_simp)
  go_wp2_with fail
  refine (at_any 1 2 _).mono ?_
  rintro e w2 ⟨rfl, hE2⟩
  have d1 := hE2.cell c1
  have d2 := hE2.cell c2
  have d3 := hE2.cell c3
  have g1 := (hE2.frozen (p := ⟨w.heap.size, 0, none⟩) (cell_lt c1)).trans f1
  have g2 := (hE2.frozen (p := ⟨w.heap.size, 1, none⟩) (cell_lt c2)).trans f2
  have g3 := (hE2.frozen (p := ⟨w.heap.size, 2, none⟩) (cell_lt c3)).trans f3
  have zz : w.heap.size < w2.heap.size := cell_lt d1
  clear c1 c2 c3 f1 f2 f3
  go_wp2
  try simp only [Exit.inBlock, Exit.then]
  refine bodyPost_ret (v := .agg #[.int .i64 3, .int .i64 4, .slice (some ⟨w2.heap.size, 0, none⟩) 2 2]) (by rw [results_cell1 rfl]; go_simp) rfl ⟨_, rfl, ?_, ?_⟩
  · refine cells2_two ?_ ?_ ?_ ?_ <;> go_simp
  · exact Below.alloc (Below.setCell (p := ⟨_, 2, none⟩) (Below.setCell (p := ⟨_, 1, none⟩) (Below.setCell (p := ⟨_, 0, none⟩) (E1.trans hE2) (Nat.le_refl _) _) (Nat.le_refl _) _) (Nat.le_refl _) _) (by simp; omega) _
end Go.Proofs.Ytfigooilhnahfaa
/- The distances, in plain Lean: they are those of the shortest walks. -/
namespace Go.Proofs.Ytfigooilhnahfaa

inductive Walk (g : Gr) (p : Pt) : Nat → Pt → Prop
  | nil : Walk g p 0 p
  | cons {n : Nat} {r q : Pt} : Walk g p n r → q ∈ near g r → Walk g p (n + 1) q
structure IsD (g : Gr) (p q : Pt) (n : Nat) : Prop where
  w : Walk g p n q
  l : ∀ m, m < n → ¬ Walk g p m q
theorem Walk.zero {g : Gr} {p q : Pt} (h : Walk g p 0 q) : q = p := by cases h; rfl
theorem Walk.succ {g : Gr} {p q : Pt} {n : Nat} (h : Walk g p (n + 1) q) : ∃ r, Walk g p n r ∧ q ∈ near g r := by
  cases h with
  | cons a b => exact ⟨_, a, b⟩
theorem Walk.isD {g : Gr} {p q : Pt} : ∀ {n : Nat}, Walk g p n q → ∃ m, m ≤ n ∧ IsD g p q m := by
  intro n
  induction n using Nat.strongRecOn with
  | ind n ih =>
    intro h
    by_cases hx : ∃ m, m < n ∧ Walk g p m q
    · obtain ⟨m, hm, hw⟩ := hx
      obtain ⟨k, hk, hd⟩ := ih m hm hw
      exact ⟨k, by omega, hd⟩
    · exact ⟨n, Nat.le_refl _, h, fun m hm hw => hx ⟨m, hm, hw⟩⟩
theorem IsD.unique {g : Gr} {p q : Pt} {m n : Nat} (h : IsD g p q m) (k : IsD g p q n) : m = n := by
  rcases Nat.lt_trichotomy m n with h1 | h1 | h1
  · exact absurd h.w (k.l _ h1)
  · exact h1
  · exact absurd k.w (h.l _ h1)
theorem IsD.pred {g : Gr} {p q : Pt} {n : Nat} (h : IsD g p q (n + 1)) : ∃ r, IsD g p r n ∧ q ∈ near g r := by
  obtain ⟨r, h1, h2⟩ := h.w.succ
  refine ⟨r, ⟨h1, fun m hm hw => ?_⟩, h2⟩
  exact h.l (m + 1) (by omega) (.cons hw h2)
theorem IsD.down {g : Gr} {p q : Pt} {n m : Nat} (h : IsD g p q (m + n)) : ∃ r, IsD g p r m := by
  induction n generalizing q with
  | zero => exact ⟨q, h⟩
  | succ n ih =>
    obtain ⟨r, h1, _⟩ := IsD.pred (n := m + n) h
    exact ih h1
theorem IsD.self (g : Gr) (p : Pt) : IsD g p p 0 := ⟨.nil, fun m hm => by omega⟩

theorem addN_mem : ∀ (qs seen next : List Pt) (x : Pt), (x ∈ (addN seen next qs).1 ↔ x ∈ seen ∨ x ∈ qs) ∧ (x ∈ (addN seen next qs).2 ↔ x ∈ next ∨ (x ∉ seen ∧ x ∈ qs)) := by
  intro qs
  induction qs with
  | nil => intro seen next x; simp [addN]
  | cons a qs ih =>
    intro seen next x
    unfold addN
    split
    · rename_i h
      obtain ⟨i1, i2⟩ := ih seen next x
      rw [i1, i2]
      constructor
      · constructor
        · rintro (h1 | h1)
          · exact .inl h1
          · exact .inr (List.mem_cons_of_mem _ h1)
        · rintro (h1 | h1)
          · exact .inl h1
          · rcases List.mem_cons.1 h1 with rfl | h1
            · exact .inl h
            · exact .inr h1
      · constructor
        · rintro (h1 | ⟨h1, h2⟩)
          · exact .inl h1
          · exact .inr ⟨h1, List.mem_cons_of_mem _ h2⟩
        · rintro (h1 | ⟨h1, h2⟩)
          · exact .inl h1
          · rcases List.mem_cons.1 h2 with rfl | h2
            · exact absurd h h1
            · exact .inr ⟨h1, h2⟩
    · rename_i h
      obtain ⟨i1, i2⟩ := ih (a :: seen) (next ++ [a]) x
      rw [i1, i2]
      simp only [List.mem_cons, List.mem_append, List.not_mem_nil, or_false]
      constructor
      · constructor
        · rintro ((h1 | h1) | h1)
          · exact .inr (.inl h1)
          · exact .inl h1
          · exact .inr (.inr h1)
        · rintro (h1 | h1 | h1)
          · exact .inl (.inr h1)
          · exact .inl (.inl h1)
          · exact .inr h1
      · constructor
        · rintro ((h1 | h1) | ⟨h1, h2⟩)
          · exact .inl h1
          · subst h1; exact .inr ⟨h, .inl rfl⟩
          · exact .inr ⟨fun h3 => h1 (.inr h3), .inr h2⟩
        · rintro (h1 | ⟨h1, h2 | h2⟩)
          · exact .inl (.inl h1)
          · exact .inl (.inr h2)
          · by_cases e : x = a
            · exact .inl (.inr e)
            · exact .inr ⟨fun h3 => h3.elim e h1, h2⟩
theorem addN_nodup : ∀ (qs seen next : List Pt), next.Nodup → (∀ x ∈ next, x ∈ seen) → (addN seen next qs).2.Nodup ∧ (∀ x ∈ (addN seen next qs).2, x ∈ (addN seen next qs).1) := by
  intro qs
  induction qs with
  | nil => intro seen next h1 h2; exact ⟨h1, h2⟩
  | cons a qs ih =>
    intro seen next h1 h2
    unfold addN
    split
    · exact ih _ _ h1 h2
    · rename_i h
      refine ih _ _ ?_ ?_
      · rw [List.nodup_append]
        refine ⟨h1, by simp, ?_⟩
        intro x hx y hy e
        simp at hy
        subst hy; subst e
        exact h (h2 _ hx)
      · intro x hx
        rcases List.mem_append.1 hx with hx | hx
        · exact List.mem_cons_of_mem _ (h2 _ hx)
        · simp at hx; subst hx; exact List.mem_cons_self ..
theorem expand_mem (g : Gr) : ∀ (ps seen next : List Pt) (x : Pt), (x ∈ (expand g seen next ps).1 ↔ x ∈ seen ∨ ∃ r ∈ ps, x ∈ near g r) ∧ (x ∈ (expand g seen next ps).2 ↔ x ∈ next ∨ (x ∉ seen ∧ ∃ r ∈ ps, x ∈ near g r)) := by
  intro ps
  induction ps with
  | nil => intro seen next x; simp [expand]
  | cons a ps ih =>
    intro seen next x
    unfold expand
    obtain ⟨i1, i2⟩ := ih (addN seen next (near g a)).1 (addN seen next (near g a)).2 x
    obtain ⟨j1, j2⟩ := addN_mem (near g a) seen next x
    rw [i1, i2, j1, j2]
    constructor
    · constructor
      · rintro ((h | h) | ⟨r, h1, h2⟩)
        · exact .inl h
        · exact .inr ⟨a, List.mem_cons_self .., h⟩
        · exact .inr ⟨r, List.mem_cons_of_mem _ h1, h2⟩
      · rintro (h | ⟨r, h1, h2⟩)
        · exact .inl (.inl h)
        · rcases List.mem_cons.1 h1 with rfl | h1
          · exact .inl (.inr h2)
          · exact .inr ⟨r, h1, h2⟩
    · constructor
      · rintro ((h | ⟨h1, h2⟩) | ⟨h, r, h1, h2⟩)
        · exact .inl h
        · exact .inr ⟨h1, a, List.mem_cons_self .., h2⟩
        · exact .inr ⟨fun h3 => h (.inl h3), r, List.mem_cons_of_mem _ h1, h2⟩
      · rintro (h | ⟨h, r, h1, h2⟩)
        · exact .inl (.inl h)
        · by_cases hn : x ∈ near g a
          · exact .inl (.inr ⟨h, hn⟩)
          · rcases List.mem_cons.1 h1 with rfl | h1
            · exact absurd h2 hn
            · exact .inr ⟨fun h3 => h3.elim h hn, r, h1, h2⟩
theorem expand_nodup (g : Gr) : ∀ (ps seen next : List Pt), next.Nodup → (∀ x ∈ next, x ∈ seen) → (expand g seen next ps).2.Nodup := by
  intro ps
  induction ps with
  | nil => intro seen next h _; exact h
  | cons a ps ih =>
    intro seen next h1 h2
    unfold expand
    have := addN_nodup (near g a) seen next h1 h2
    exact ih _ _ this.1 this.2

/-- a wave of the waves from p -/
structure WV (g : Gr) (p : Pt) (seen now : List Pt) (far : Nat) : Prop where
  s : ∀ x, x ∈ seen ↔ ∃ m, m ≤ far ∧ Walk g p m x
  n : ∀ x, x ∈ now ↔ IsD g p x far
  nd : now.Nodup
theorem WV.step {g : Gr} {p : Pt} {seen now : List Pt} {far : Nat} (h : WV g p seen now far) : WV g p (expand g seen [] now).1 (expand g seen [] now).2 (far + 1) := by
  refine ⟨fun x => ?_, fun x => ?_, expand_nodup g now seen [] List.nodup_nil (fun x hx => by cases hx)⟩
  · rw [(expand_mem g now seen [] x).1, h.s]
    constructor
    · rintro (⟨m, h1, h2⟩ | ⟨r, h1, h2⟩)
      · exact ⟨m, by omega, h2⟩
      · exact ⟨far + 1, Nat.le_refl _, .cons ((h.n r).1 h1).w h2⟩
    · rintro ⟨m, h1, h2⟩
      by_cases e : m ≤ far
      · exact .inl ⟨m, e, h2⟩
      · obtain rfl : m = far + 1 := by omega
        obtain ⟨r, h3, h4⟩ := h2.succ
        obtain ⟨k, h5, h6⟩ := h3.isD
        by_cases e2 : k = far
        · subst e2; exact .inr ⟨r, (h.n r).2 h6, h4⟩
        · exact .inl ⟨k + 1, by omega, .cons h6.w h4⟩
  · rw [(expand_mem g now seen [] x).2, h.s]
    constructor
    · rintro (h1 | ⟨h1, r, h2, h3⟩)
      · cases h1
      · exact ⟨.cons ((h.n r).1 h2).w h3, fun m hm hw => h1 ⟨m, by omega, hw⟩⟩
    · intro hd
      refine .inr ⟨fun ⟨m, h1, h2⟩ => hd.l m (by omega) h2, ?_⟩
      obtain ⟨r, h1, h2⟩ := hd.pred
      exact ⟨r, (h.n r).2 h1, h2⟩
theorem waves_sound (g : Gr) (p : Pt) : ∀ (f : Nat) (seen now : List Pt) (far : Nat), WV g p seen now far → ∀ x ∈ waves g f seen now far, IsD g p x.1 x.2 ∧ far ≤ x.2 := by
  intro f
  induction f with
  | zero => intro seen now far _ x hx; cases hx
  | succ f ih =>
    intro seen now far h x hx
    unfold waves at hx
    split at hx
    · cases hx
    · rcases List.mem_append.1 hx with hx | hx
      · obtain ⟨q, hq, rfl⟩ := List.mem_map.1 hx
        exact ⟨(h.n q).1 hq, Nat.le_refl _⟩
      · obtain ⟨h1, h2⟩ := ih _ _ _ h.step x hx
        exact ⟨h1, by omega⟩
theorem waves_all (g : Gr) (hr : Right g) (p : Pt) : ∀ (f : Nat) (seen now : List Pt) (n : Nat), WV g p seen now n → WI g seen now → n + f = 4097 → (now ≠ [] → n + 1 ≤ seen.length) →
    ∀ (q : Pt) (k : Nat), IsD g p q k → n ≤ k → (q, k) ∈ waves g f seen now n := by
  intro f
  induction f with
  | zero =>
    intro seen now n h hi hf hl q k hd hk
    exfalso
    obtain ⟨r, hr'⟩ := IsD.down (m := n) (n := k - n) (by rw [show n + (k - n) = k from by omega]; exact hd)
    have hm := (h.n r).2 hr'
    have := hl (List.ne_nil_of_mem hm)
    have := hi.len hr
    omega
  | succ f ih =>
    intro seen now n h hi hf hl q k hd hk
    obtain ⟨r, hr'⟩ := IsD.down (m := n) (n := k - n) (by rw [show n + (k - n) = k from by omega]; exact hd)
    have hm := (h.n r).2 hr'
    have hne := List.ne_nil_of_mem hm
    rw [waves_step _ _ _ _ _ hne]
    by_cases e : k = n
    · subst e
      exact List.mem_append_left _ (List.mem_map.2 ⟨q, (h.n q).2 hd, rfl⟩)
    · refine List.mem_append_right _ ?_
      have hi2 := expand_inv now seen [] ⟨hi.nd, hi.ins, fun q hq => by cases hq⟩
      refine ih _ _ _ h.step hi2.1 (by omega) (fun hne2 => ?_) q k hd (by omega)
      have h1 := hl hne
      have h2 := List.length_pos_iff.2 hne2
      have h3 := hi2.2
      simp at h3
      omega
theorem waves_nodup (g : Gr) (p : Pt) : ∀ (f : Nat) (seen now : List Pt) (n : Nat), WV g p seen now n → ((waves g f seen now n).map (·.1)).Nodup := by
  intro f
  induction f with
  | zero => intro seen now n _; exact List.nodup_nil
  | succ f ih =>
    intro seen now n h
    unfold waves
    split
    · exact List.nodup_nil
    · rw [List.map_append, List.nodup_append]
      refine ⟨?_, ih _ _ _ h.step, ?_⟩
      · rw [List.map_map]
        simpa [Function.comp_def] using h.nd
      · intro a ha b hb e
        subst e
        simp only [List.map_map, List.mem_map, Function.comp_apply] at ha hb
        obtain ⟨q, hq, rfl⟩ := ha
        obtain ⟨x, hx, hxe⟩ := hb
        obtain ⟨h1, h2⟩ := waves_sound g p f _ _ _ h.step x hx
        rw [hxe] at h1
        have := h1.unique ((h.n q).1 hq)
        omega
theorem wv0 (g : Gr) (p : Pt) : WV g p [p] [p] 0 := by
  refine ⟨fun x => ?_, fun x => ?_, by simp⟩
  · constructor
    · intro h; simp at h; subst h; exact ⟨0, Nat.le_refl _, .nil⟩
    · rintro ⟨m, h1, h2⟩
      obtain rfl : m = 0 := by omega
      simp [h2.zero]
  · constructor
    · intro h; simp at h; subst h; exact IsD.self g x
    · intro h; simp [h.w.zero]
theorem wave_sound {g : Gr} {p : Pt} {x : Pt × Nat} (h : x ∈ wave g p) : IsD g p x.1 x.2 := by
  unfold wave at h
  exact (waves_sound g p _ _ _ _ (wv0 g p) x h).1
theorem wave_all {g : Gr} (hr : Right g) {p q : Pt} (hp : inside g p = true) {k : Nat} (h : IsD g p q k) : (q, k) ∈ wave g p := by
  unfold wave
  exact waves_all g hr p _ _ _ _ (wv0 g p) ⟨by simp, fun q hq => by simp at hq; subst hq; exact hp, fun q hq => hq⟩ rfl (fun _ => by simp) q k h (Nat.zero_le _)
theorem wave_nodup (g : Gr) (p : Pt) : ((wave g p).map (·.1)).Nodup := by
  unfold wave
  exact waves_nodup g p _ _ _ _ (wv0 g p)
theorem far_none : ∀ (l : List (Pt × Nat)) (q : Pt) (d : Int), (∀ x ∈ l, x.1 ≠ q) → l.foldl (fun d x => if x.1 = q then (x.2 : Int) else d) d = d := by
  intro l
  induction l with
  | nil => intro q d _; rfl
  | cons a l ih =>
    intro q d h
    rw [List.foldl_cons, if_neg (h a (List.mem_cons_self ..))]
    exact ih q d (fun x hx => h x (List.mem_cons_of_mem _ hx))
theorem far_some : ∀ (l : List (Pt × Nat)) (q : Pt) (k : Nat) (d : Int), (q, k) ∈ l → (∀ x ∈ l, x.1 = q → x.2 = k) → l.foldl (fun d x => if x.1 = q then (x.2 : Int) else d) d = k := by
  intro l
  induction l with
  | nil => intro q k d h; cases h
  | cons a l ih =>
    intro q k d h hall
    rw [List.foldl_cons]
    by_cases hl : (q, k) ∈ l
    · exact ih q k _ hl (fun x hx => hall x (List.mem_cons_of_mem _ hx))
    · rcases List.mem_cons.1 h with rfl | h
      · rw [if_pos rfl]
        refine far_none l q _ (fun x hx e => hl ?_)
        have := hall x (List.mem_cons_of_mem _ hx) e
        have hxe : x = (q, k) := Prod.ext e this
        rw [← hxe]; exact hx
      · exact absurd h hl
theorem dst_of {g : Gr} (hr : Right g) {p q : Pt} (hp : inside g p = true) {k : Nat} (h : IsD g p q k) : dst g p q = k :=
  far_some _ q k _ (wave_all hr hp h) (fun x hx e => by have := wave_sound hx; rw [e] at this; exact this.unique h)
theorem dst_none {g : Gr} {p q : Pt} (h : ∀ k, ¬ IsD g p q k) : dst g p q = -1 :=
  far_none _ q _ (fun x hx e => h x.2 (e ▸ wave_sound hx))
theorem dst_cases {g : Gr} (hr : Right g) {p : Pt} (hp : inside g p = true) (q : Pt) : (∃ k : Nat, IsD g p q k ∧ dst g p q = k) ∨ ((∀ k, ¬ IsD g p q k) ∧ dst g p q = -1) := by
  by_cases h : ∃ k, IsD g p q k
  · obtain ⟨k, h⟩ := h
    exact .inl ⟨k, h, dst_of hr hp h⟩
  · exact .inr ⟨fun k hk => h ⟨k, hk⟩, dst_none fun k hk => h ⟨k, hk⟩⟩

/-! ### Both ways -/
theorem nbs_symm {p q : Pt} (h : q ∈ nbs p) : p ∈ nbs q := by
  unfold nbs at *
  obtain ⟨a, b⟩ := p
  simp only [List.mem_cons, List.not_mem_nil, or_false] at h ⊢
  rcases h with rfl | rfl | rfl | rfl <;> simp
theorem near_symm {g : Gr} {p q : Pt} (hp : opn g p = true) (h : q ∈ near g p) : p ∈ near g q := by
  unfold near at *
  exact List.mem_filter.2 ⟨nbs_symm (List.mem_filter.1 h).1, hp⟩
theorem Walk.opn {g : Gr} {p q : Pt} {n : Nat} (hp : opn g p = true) (h : Walk g p n q) : opn g q = true := by
  cases h with
  | nil => exact hp
  | cons _ h => exact near_opn h
theorem Walk.head {g : Gr} {p r q : Pt} {n : Nat} (h1 : r ∈ near g p) (h : Walk g r n q) : Walk g p (n + 1) q := by
  induction h with
  | nil => exact .cons .nil h1
  | cons _ h2 ih => exact .cons ih h2
theorem Walk.symm {g : Gr} {p q : Pt} {n : Nat} (hp : Go.Proofs.Ytfigooilhnahfaa.opn g p = true) (h : Walk g p n q) : Walk g q n p := by
  induction h with
  | nil => exact .nil
  | cons h1 h2 ih => exact Walk.head (near_symm (h1.opn hp) h2) ih
theorem Walk.trans {g : Gr} {p q r : Pt} {m n : Nat} (h : Walk g p m q) (k : Walk g q n r) : Walk g p (m + n) r := by
  induction k with
  | nil => exact h
  | cons _ h2 ih => exact .cons ih h2
theorem IsD.symm {g : Gr} {p q : Pt} {n : Nat} (hp : opn g p = true) (hq : opn g q = true) (h : IsD g p q n) : IsD g q p n :=
  ⟨h.w.symm hp, fun m hm hw => h.l m hm (hw.symm hq)⟩
theorem dst_symm {g : Gr} (hr : Right g) {p q : Pt} (hp : opn g p = true) (hq : opn g q = true) : dst g p q = dst g q p := by
  have ip : inside g p = true := by unfold opn at hp; simp only [Bool.and_eq_true] at hp; exact hp.1
  have iq : inside g q = true := by unfold opn at hq; simp only [Bool.and_eq_true] at hq; exact hq.1
  rcases dst_cases hr ip q with ⟨k, h, e⟩ | ⟨h, e⟩
  · rw [e, dst_of hr iq (h.symm hp hq)]
  · rw [e, dst_none fun k hk => h k (hk.symm hq hp)]
end Go.Proofs.Ytfigooilhnahfaa
/- Ways, in plain Lean. -/
namespace Go.Proofs.Ytfigooilhnahfaa

def stepTo (g : Gr) (D : Pt → Int) (a : Pt) : Pt := ((near g a).find? (fun x => decide (D x = D a - 1))).getD a
def wayGo (g : Gr) (D : Pt → Int) : Nat → Pt → List Pt
  | 0, _ => []
  | n + 1, a => stepTo g D a :: wayGo g D n (stepTo g D a)
/-- the first route -/
def way (g : Gr) (p q : Pt) : List Pt := p :: wayGo g (dst g q) (dst g q p).toNat p
theorem wayGo_len (g : Gr) (D : Pt → Int) : ∀ n a, (wayGo g D n a).length = n := by
  intro n
  induction n with
  | zero => intro a; rfl
  | succ n ih => intro a; simp [wayGo, ih]
theorem stepTo_of {g : Gr} {D : Pt → Int} {a x : Pt} {pre : List Pt} (h : pre ++ [x] <+: near g a) (hn : ∀ y ∈ pre, D y ≠ D a - 1) (hx : D x = D a - 1) : stepTo g D a = x := by
  obtain ⟨post, hp⟩ := h
  unfold stepTo
  rw [← hp, List.append_assoc, List.find?_append, List.find?_eq_none.2 (fun y hy => by simpa using hn y hy)]
  simp [hx]
theorem stepTo_ex {g : Gr} (hr : Right g) {q a : Pt} {k : Nat} (hq : opn g q = true) (_ha : opn g a = true) (h : IsD g q a (k + 1)) : ∃ x ∈ near g a, dst g q x = k := by
  obtain ⟨r, h1, h2⟩ := h.pred
  refine ⟨r, near_symm (h1.w.opn hq) h2, dst_of hr ?_ h1⟩
  unfold opn at hq; simp only [Bool.and_eq_true] at hq; exact hq.1
theorem IsD.lt {g : Gr} (hr : Right g) {p q : Pt} (hp : inside g p = true) {k : Nat} (h : IsD g p q k) : k < 4097 := by
  have key : ∀ (f : Nat) (seen now : List Pt) (n : Nat), ∀ x ∈ waves g f seen now n, x.2 < n + f := by
    intro f
    induction f with
    | zero => intro seen now n x hx; cases hx
    | succ f ih =>
      intro seen now n x hx
      unfold waves at hx
      split at hx
      · cases hx
      · rcases List.mem_append.1 hx with hx | hx
        · obtain ⟨q, _, rfl⟩ := List.mem_map.1 hx
          simp
        · have := ih _ _ _ x hx
          omega
  have := wave_all hr hp h
  unfold wave at this
  have := key _ _ _ _ _ this
  simpa using this
theorem stepTo_isD {g : Gr} (hr : Right g) {q a : Pt} {k : Nat} (hq : opn g q = true) (_h : IsD g q a (k + 1)) {x : Pt} (_hx : x ∈ near g a) (hd : dst g q x = k) : IsD g q x k := by
  have iq : inside g q = true := by unfold opn at hq; simp only [Bool.and_eq_true] at hq; exact hq.1
  rcases dst_cases hr iq x with ⟨m, h1, e⟩ | ⟨_, e⟩
  · rw [hd] at e
    have : k = m := by omega
    subst this; exact h1
  · rw [hd] at e; omega
end Go.Proofs.Ytfigooilhnahfaa
