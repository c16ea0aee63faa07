/- A range over a function, where the iterator may keep state of its own in memory: the law for the caller, and what an iterator's contract says. -/
import Derived.Test.YtfigooilhnahfaaBase
import Derived.RangeFuncNested
import Derived.RangeFuncBound
import Derived.RangeFuncCalls
import Derived.RangeFuncLeaves
import Derived.Shelf.Abstract
import Derived.OwnWalkIn
import Derived.TacticsInMore
import Derived.LoopNIn
import Derived.LoopIn
namespace Go.Proofs.Ytfigooilhnahfaa
open Go.RowKit

/-- the loops over functions in a code: their assign codes and bodies -/
def rngOf : Code → List (Code × Code)
  | .seq a b => rngOf a ++ rngOf b
  | .block _ c => rngOf c
  | .loop c => rngOf c
  | .cond _ a b => rngOf a ++ rngOf b
  | .rangeFunc _ _ a b => [(a, b)]
  | _ => []

/-- a loop's record or its list of deferred calls: the book-keeping of loops over functions -/
def isRec : Obj → Bool
  | .loop _ => true
  | .deferred _ => true
  | _ => false

/-- below n nothing turns; beyond, book-keeping of loops alone -/
def Keep (n : Nat) (A B : World) : Prop := Below n A B ∧ ∀ (k : Nat) (o : Obj), A.heap[k]? = some o → isRec o = false → B.heap[k]? = some o
theorem Keep.refl (n : Nat) (A : World) : Keep n A A := ⟨Below.refl _ _, fun _ _ h _ => h⟩
theorem Keep.trans {n : Nat} {A B C : World} (h : Keep n A B) (k : Keep n B C) : Keep n A C := ⟨h.1.trans k.1, fun i o hi ho => k.2 i o (h.2 i o hi ho) ho⟩
theorem Keep.alloc {n : Nat} {A : World} (hn : n ≤ A.heap.size) (o : Obj) : Keep n A (A.alloc o) :=
  ⟨(Below.refl _ _).alloc hn o, fun k o' h _ => by
    have hk : k < A.heap.size := (Array.getElem?_eq_some_iff.1 h).1
    rw [Below.heap_alloc _ _ _ hk]; exact h⟩
theorem Keep.turn {n l : Nat} {A : World} {o o' : Obj} (hn : n ≤ l) (h : A.heap[l]? = some o) (hr : isRec o = true) : Keep n A (A.putObj l o') :=
  ⟨(Below.refl _ _).grown (grownBy_putObj' A l o') (by have := (Array.getElem?_eq_some_iff.1 h).1; omega) (fun k e => by cases e; exact hn), fun k x hx hxr => by
    have : k ≠ l := fun e => by subst e; rw [h] at hx; cases hx; rw [hr] at hxr; cases hxr
    rw [World.putObj_heap_other this]; exact hx⟩
theorem Keep.ext {n : Nat} {A B : World} (h : Ext A B) (hn : n ≤ A.heap.size) : Keep n A B :=
  ⟨h.mono hn, fun k o hk _ => by
    have hk' : k < A.heap.size := (Array.getElem?_eq_some_iff.1 hk).1
    rw [Below.block h k hk']; exact hk⟩

/-- what an iterator is told that a round keeps: the blocks k with Kd k; below n not the book-keeping of loops -/
def Kept (Kd : Nat → Prop) (n : Nat) (A B : World) : Prop := A.heap.size ≤ B.heap.size ∧ ∀ (k : Nat) (o : Obj), Kd k → A.heap[k]? = some o → (isRec o = false ∨ n ≤ k) → B.heap[k]? = some o
theorem Kept.refl (Kd : Nat → Prop) (n : Nat) (A : World) : Kept Kd n A A := ⟨Nat.le_refl _, fun _ _ _ h _ => h⟩
theorem Kept.trans {Kd : Nat → Prop} {n : Nat} {A B C : World} (h : Kept Kd n A B) (k : Kept Kd n B C) : Kept Kd n A C := ⟨Nat.le_trans h.1 k.1, fun i o hd hi ho => k.2 i o hd (h.2 i o hd hi ho) ho⟩
theorem Kept.turn {Kd : Nat → Prop} {n l : Nat} {A : World} {o o' : Obj} (hn : l < n) (h : A.heap[l]? = some o) (hr : isRec o = true) : Kept Kd n A (A.putObj l o') :=
  ⟨(grownBy_putObj' A l o').size, fun k x _ hx hxr => by
    have : k ≠ l := fun e => by
      subst e; rw [h] at hx; cases hx
      rcases hxr with hxr | hxr
      · rw [hr] at hxr; cases hxr
      · omega
    rw [World.putObj_heap_other this]; exact hx⟩
theorem Kept.ext {A B : World} (h : Ext A B) (Kd : Nat → Prop) (n : Nat) : Kept Kd n A B :=
  ⟨h.size, fun k o _ hk _ => by rw [Below.block h k (Array.getElem?_eq_some_iff.1 hk).1]; exact hk⟩

/-- THE CONTRACT OF AN ITERATOR that yields xs in order. 'R n A B': how it turns the world (n: the heap's size when it is called); 'Kd n k': the blocks that it wants kept by a round; 'm': so many blocks it has made before its first round. -/
def Iter {α : Type} (P : Program) (g : Nat) (lb : Array Value) (encs : α → Array Value) (xs : List α) (R : Nat → World → World → Prop) (Kd : Nat → Nat → Prop) (m : Nat) (w : World) : Prop :=
  ∀ (l : Nat) (J Jx : List α → World → Prop) (W : World), Ext w W →
    (∀ pre A B, J pre A → R W.heap.size A B → J pre B) → (∀ pre A B, Jx pre A → R W.heap.size A B → Jx pre B) →
    (∀ pre x W1, pre ++ [x] <+: xs → W.heap.size + m ≤ W1.heap.size → J pre W1 → YieldAt Fence.wide 0 P l (encs x) W1 fun e W' =>
      (e = .returned (.bool true) ∧ J (pre ++ [x]) W' ∧ Kept (Kd W.heap.size) W.heap.size W1 W') ∨ (e = .returned (.bool false) ∧ Jx (pre ++ [x]) W' ∧ Kept (Kd W.heap.size) W.heap.size W1 W')) →
    J [] W →
    CallsIn Fence.wide 0 P g (#[.func (.yield l) #[] #[]] ++ lb) W fun e W' => (∃ v, e = .returned v) ∧ (J xs W' ∨ ∃ pre, pre <+: xs ∧ Jx pre W')

/-- how the body of a round may end -/
def roundQ {α : Type} (Kd : Nat → Prop) (n : Nat) (I : List α → World → Prop) (Ix : Code → List α → World → Prop) (xs : List α) (w0 W : World) : Exit → Act → World → Prop
  | .normal, _, W' => Kept Kd n W W' ∧ KeepsFrom w0.heap.size W W' ∧ I xs W'
  | .ret, _, W' => Kept Kd n W W' ∧ KeepsFrom w0.heap.size W W' ∧ Ix .ret xs W'
  | .exit id, _, W' => Kept Kd n W W' ∧ KeepsFrom w0.heap.size W W' ∧ Ix (.exit id) xs W'
  | .goto t, _, W' => Kept Kd n W W' ∧ KeepsFrom w0.heap.size W W' ∧ Ix (.goto t) xs W'
  | .panic _, _, _ => False
  | .outgrown, _, _ => False

/-- the law of the caller -/
theorem wp_range {α : Type} {P : Program} {n : Nat} {g : Operand} {ps : Array Tmp} {assign body : Code} {Q : Exit → Act → World → Prop} {a : Act} {w : World}
    {gf : Nat} {lb : Array Value} (hg : a.eval g = .func (.func gf) #[] lb) (eg : ∀ args w, (callFunc gf args).run P w = .ok (.enter gf args) w)
    {encs : α → Array Value} {xs : List α} {R : Nat → World → World → Prop} {Kd : Nat → Nat → Prop} {m : Nat} (hseq : Iter P gf lb encs xs R Kd m w)
    (hps : ∀ x, (encs x).size = ps.size)
    (hR : ∀ A B, R (w.heap.size + 2) A B → ∀ (k : Nat) (o : Obj), k < w.heap.size + 2 → A.heap[k]? = some o → B.heap[k]? = some o)
    (I : List α → World → Prop) (Ix : Code → List α → World → Prop)
    (hIR : ∀ pre A B, I pre A → R (w.heap.size + 2) A B → I pre B) (hIxR : ∀ c pre A B, Ix c pre A → R (w.heap.size + 2) A B → Ix c pre B)
    (hIK : ∀ pre A B, I pre A → Keep w.heap.size A B → I pre B) (hIxK : ∀ c pre A B, Ix c pre A → Keep w.heap.size A B → Ix c pre B)
    (h0 : I [] w) (Ax : α → Act → World → Prop) (hAxK : ∀ x a' A B, Ax x a' A → Keep w.heap.size A B → Ax x a' B)
    (hassign : ∀ (l : Nat) (pre : List α) (x : α) (W : World) (K : Act → World → Prop), w.heap.size + 2 + m ≤ W.heap.size → I pre W → (∀ a' W', Ext W W' → Ax x a' W' → K a' W') →
      assign.wpIn (Fence.wide.inRound l) 0 P (Exit.then K (fun _ _ _ => False)) { tmps := (ps.zip (encs x)).foldl (fun t (p, v) => t.setIfInBounds p v) a.tmps, defers := [] } W)
    (hbody : ∀ (l : Nat) (pre : List α) (x : α) (a' : Act) (W : World), pre ++ [x] <+: xs → w.heap.size + 2 + m ≤ W.heap.size → I pre W → Ax x a' W →
      body.wpIn (Fence.wide.inRound l) 0 P (roundQ (Kd (w.heap.size + 2)) (w.heap.size + 2) I Ix (pre ++ [x]) w W) a' W)
    (hIE : ∀ pre A B, I pre A → Ext A B → I pre B)
    (hdone : ∀ (D : Nat) (W : World), w.heap.size ≤ D → D < W.heap.size → I xs W → W.heap[D]? = some (.deferred (some [])) → Q .normal { a with defers := { target := .collected D, args := #[] } :: a.defers } W)
    (hstop : ∀ (D : Nat) (c : Code) (pre : List α) (W : World), w.heap.size ≤ D → D < W.heap.size → pre <+: xs → Ix c pre W → W.heap[D]? = some (.deferred (some [])) → c.wp P Q { a with defers := { target := .collected D, args := #[] } :: a.defers } W) :
    (Code.rangeFunc g ps assign body).wp P Q a w := by
  refine (wpIn_wide (n := n)).1 (wpIn_rangeFunc ?_)
  intro fn hfn
  obtain ⟨rec, hrec⟩ : ∃ rec : LoopState → Option Code → Loop, rec = fun st pe => { state := st, pending := pe, fn, tmps := a.tmps, params := ps, assign, body, defers := w.heap.size } := ⟨_, rfl⟩
  obtain ⟨W1, hW1⟩ : ∃ W1, (w.alloc (.deferred (some []))).alloc (.loop (rec .ready none)) = W1 := ⟨_, rfl⟩
  have hsz : W1.heap.size = w.heap.size + 2 := by rw [← hW1]; simp
  have hL1 : W1.heap[w.heap.size + 1]? = some (.loop (rec .ready none)) := by
    rw [← hW1]; have := World.alloc_heap_new (w.alloc (.deferred (some []))) (.loop (rec .ready none)); rwa [World.size_alloc] at this
  have hD1 : W1.heap[w.heap.size]? = some (.deferred (some [])) := by
    rw [← hW1]; exact (Below.heap_alloc _ _ _ (by simp)).trans (World.alloc_heap_new w _)
  have hE1 : Ext w W1 := by rw [← hW1]; exact ((Ext.refl w).alloc _).alloc _
  have hI1 : I [] W1 := hIE _ _ _ h0 hE1
  refine ⟨w.heap.size + 1, [{ target := .collected w.heap.size, args := #[] }], W1, { target := .fn (.func gf) lb, args := #[.func (.yield (w.heap.size + 1)) #[] #[]] }, W1, gf,
    #[.func (.yield (w.heap.size + 1)) #[] #[]] ++ lb, W1, ?_, ?_, fun _ _ => trivial, ?_, (fun h => by cases h), ?_⟩
  · rw [← hW1, hrec]; exact run_enterLoop_outer _ _ _ _ _
  · simp only [resolve, hg]
    simp [go_sem]
  · simp [invoke, go_sem, eg]
  have wide0 : ∀ {f : FuncId} {args : Array Value} {v : World} {T : Ending → World → Prop}, CallsIn Fence.wide 0 P f args v T → CallsIn Fence.wide (n - 1) P f args v T := fun h => callsIn_wide.2 (callsIn_wide.1 h)
  refine wide0 ?_
  have key := hseq (w.heap.size + 1)
    (fun pre W => I pre W ∧ W.heap[w.heap.size + 1]? = some (.loop (rec .ready none)) ∧ W.heap[w.heap.size]? = some (.deferred (some [])))
    (fun pre W => ∃ c, Ix c pre W ∧ W.heap[w.heap.size + 1]? = some (.loop (rec .done (some c))) ∧ W.heap[w.heap.size]? = some (.deferred (some [])))
    W1 hE1
  rw [hsz] at key
  have key2 := key
    (fun pre A B h hr => ⟨hIR _ _ _ h.1 hr, hR _ _ hr _ _ (by omega) h.2.1, hR _ _ hr _ _ (by omega) h.2.2⟩)
    (fun pre A B h hr => by
      obtain ⟨c, h1, h2, h3⟩ := h
      exact ⟨c, hIxR _ _ _ _ h1 hr, hR _ _ hr _ _ (by omega) h2, hR _ _ hr _ _ (by omega) h3⟩)
  clear key
  refine CallsIn.mono (key2 ?_ ⟨hI1, hL1, hD1⟩) ?_
  · -- one round
    rintro pre x W hpre hm ⟨hi, hl, hd⟩
    have hy := run_yield (P := P) (args := encs x) hl (by rw [hrec]; exact hps x)
    rw [hrec] at hy
    refine ⟨fn, _, assign, body, hy, roundIn_of_wpIn hfn (hassign _ pre x W _ hm hi ?_)⟩
    clear hy
    intro a' Wa hEa hAx
    have hla : Wa.heap[w.heap.size + 1]? = some (.loop (rec .ready none)) := (Below.block hEa _ (Array.getElem?_eq_some_iff.1 hl).1).trans hl
    have hda : Wa.heap[w.heap.size]? = some (.deferred (some [])) := (Below.block hEa _ (Array.getElem?_eq_some_iff.1 hd).1).trans hd
    have hia : I pre Wa := hIE _ _ _ hi hEa
    have hlt : w.heap.size + 1 < Wa.heap.size := (Array.getElem?_eq_some_iff.1 hla).1
    refine ⟨_, run_beginRound hla (by rw [hrec]), ?_⟩
    obtain ⟨W2, hW2⟩ : ∃ W2, Wa.putObj (w.heap.size + 1) (.loop { rec .ready none with state := .busy }) = W2 := ⟨_, rfl⟩
    have hT : Keep w.heap.size Wa W2 := by rw [← hW2]; exact Keep.turn (by omega) hla rfl
    have hl2 : W2.heap[w.heap.size + 1]? = some (.loop { rec .ready none with state := .busy }) := by rw [← hW2]; exact World.putObj_heap_same hlt
    have hd2 : W2.heap[w.heap.size]? = some (.deferred (some [])) := by rw [← hW2]; exact (World.putObj_heap_other (by omega)).trans hda
    rw [hW2]
    refine wpIn_mono (hbody _ pre x a' W2 hpre (Nat.le_trans hm (Nat.le_trans hEa.size hT.1.size)) (hIK _ _ _ hia hT) (hAxK _ _ _ _ hAx hT)) ?_
    have fin : ∀ (jump : Option Code) (W3 : World), KeepsFrom w.heap.size W2 W3 →
        ∃ W4, (Instr.endRound (w.heap.size + 1) jump).run P W3 = .ok (.bool jump.isNone) W4 ∧ Keep w.heap.size W3 W4 ∧ Kept (Kd (w.heap.size + 2)) (w.heap.size + 2) W3 W4 ∧
          W4.heap[w.heap.size + 1]? = some (.loop (rec (if jump.isNone then .ready else .done) jump)) ∧ W4.heap[w.heap.size]? = some (.deferred (some [])) := fun jump W3 hk3 => by
      have hl3 := hk3.same _ _ (by omega) hl2 rfl
      have hd3 := hk3.same _ _ (Nat.le_refl _) hd2 rfl
      have hr3 := run_endRound (P := P) jump hl3
      have hlt3 := (Array.getElem?_eq_some_iff.1 hl3).1
      rw [hrec] at hr3 ⊢
      exact ⟨_, hr3, Keep.turn (by omega) hl3 rfl, Kept.turn (by omega) hl3 rfl, World.putObj_heap_same hlt3, (World.putObj_heap_other (by omega)).trans hd3⟩
    rintro e a3 W3 hp
    have hW02 : Kept (Kd (w.heap.size + 2)) (w.heap.size + 2) W W2 := (Kept.ext hEa _ _).trans (by rw [← hW2]; exact Kept.turn (by omega) hla rfl)
    cases e with
    | normal =>
      obtain ⟨hkp, hk3, hi3⟩ := hp
      obtain ⟨W4, hr4, hT4, hK4, hl4, hd4⟩ := fin none W3 hk3
      exact ⟨_, _, hr4, .inl ⟨rfl, ⟨hIK _ _ _ hi3 hT4, hl4, hd4⟩, (hW02.trans hkp).trans hK4⟩⟩
    | ret =>
      obtain ⟨hkp, hk3, hi3⟩ := hp
      obtain ⟨W4, hr4, hT4, hK4, hl4, hd4⟩ := fin (some .ret) W3 hk3
      exact ⟨_, _, hr4, .inr ⟨rfl, ⟨_, hIxK _ _ _ _ hi3 hT4, hl4, hd4⟩, (hW02.trans hkp).trans hK4⟩⟩
    | exit id =>
      obtain ⟨hkp, hk3, hi3⟩ := hp
      obtain ⟨W4, hr4, hT4, hK4, hl4, hd4⟩ := fin (some (.exit id)) W3 hk3
      exact ⟨_, _, hr4, .inr ⟨rfl, ⟨_, hIxK _ _ _ _ hi3 hT4, hl4, hd4⟩, (hW02.trans hkp).trans hK4⟩⟩
    | goto t =>
      obtain ⟨hkp, hk3, hi3⟩ := hp
      obtain ⟨W4, hr4, hT4, hK4, hl4, hd4⟩ := fin (some (.goto t)) W3 hk3
      exact ⟨_, _, hr4, .inr ⟨rfl, ⟨_, hIxK _ _ _ _ hi3 hT4, hl4, hd4⟩, (hW02.trans hkp).trans hK4⟩⟩
    | panic ch => exact hp.elim
    | outgrown => exact hp.elim
  · -- behind the iterator
    rintro e W2 ⟨⟨v, rfl⟩, (⟨hi, hl, hd⟩ | ⟨pre, hpre, c, hi, hl, hd⟩)⟩
    · have hr := run_endLoop (P := P) hl (by rw [hrec]; simp)
      have hT : Keep w.heap.size W2 _ := Keep.turn (n := w.heap.size) (l := w.heap.size + 1) (A := W2) (o' := .loop { rec .ready none with state := .exhausted }) (by omega) hl rfl
      rw [hrec] at hr hT
      have hd' := (World.putObj_heap_other (w := W2) (r := w.heap.size + 1) (o := .loop { rec .ready none with state := .exhausted }) (k := w.heap.size) (by omega)).trans hd
      rw [hrec] at hd'
      exact ⟨none, _, hr, hdone _ _ (Nat.le_refl _) (Array.getElem?_eq_some_iff.1 hd').1 (hIK _ _ _ hi hT) hd'⟩
    · have hr := run_endLoop (P := P) hl (by rw [hrec]; simp)
      have hT : Keep w.heap.size W2 _ := Keep.turn (n := w.heap.size) (l := w.heap.size + 1) (A := W2) (o' := .loop { rec .done (some c) with state := .exhausted }) (by omega) hl rfl
      rw [hrec] at hr hT
      have hd' := (World.putObj_heap_other (w := W2) (r := w.heap.size + 1) (o := .loop { rec .done (some c) with state := .exhausted }) (k := w.heap.size) (by omega)).trans hd
      rw [hrec] at hd'
      exact ⟨some c, _, hr, wpIn_wide.2 (hstop _ c pre _ (Nat.le_refl _) (Array.getElem?_eq_some_iff.1 hd').1 hpre (hIxK _ _ _ _ hi hT) hd')⟩

/-- a mark of a loop over a function among the deferred calls -/
def mark (D : Nat) : Deferred := { target := .collected D, args := #[] }
/-- the marks ds lie untouched, from block n on -/
def Marks (n : Nat) (ds : List Deferred) (w : World) : Prop := ∃ Ds : List Nat, ds = Ds.map mark ∧ Ds.Nodup ∧ ∀ D ∈ Ds, n ≤ D ∧ w.heap[D]? = some (.deferred (some []))
theorem Marks.nil (n : Nat) (w : World) : Marks n [] w := ⟨[], rfl, List.nodup_nil, fun _ h => by cases h⟩
theorem Marks.kept {n : Nat} {ds : List Deferred} {A B : World} (h : Marks n ds A) (hk : ∀ D, n ≤ D → A.heap[D]? = some (.deferred (some [])) → B.heap[D]? = some (.deferred (some []))) : Marks n ds B := by
  obtain ⟨Ds, h1, h2, h3⟩ := h
  exact ⟨Ds, h1, h2, fun D hD => ⟨(h3 D hD).1, hk D (h3 D hD).1 (h3 D hD).2⟩⟩
theorem Marks.ext {n : Nat} {ds : List Deferred} {A B : World} (h : Marks n ds A) (he : Ext A B) : Marks n ds B :=
  h.kept fun D _ hD => by rw [Below.block he D (Array.getElem?_eq_some_iff.1 hD).1]; exact hD
theorem Marks.cons {n D : Nat} {ds : List Deferred} {A B : World} (h : Marks n ds A) (hA : A.heap.size ≤ D) (hn : n ≤ D) (hk : Marks n ds B) (hD : B.heap[D]? = some (.deferred (some []))) : Marks n (mark D :: ds) B := by
  obtain ⟨Ds, h1, h2, h3⟩ := h
  obtain ⟨Es, k1, k2, k3⟩ := hk
  refine ⟨D :: Ds, by rw [h1]; rfl, List.nodup_cons.2 ⟨fun hm => ?_, h2⟩, fun E hE => ?_⟩
  · have := (Array.getElem?_eq_some_iff.1 (h3 D hm).2).1
    omega
  · rcases List.mem_cons.1 hE with rfl | hE
    · exact ⟨hn, hD⟩
    · have hEs : Es = Ds := by
        have : Es.map mark = Ds.map mark := by rw [← k1, h1]
        exact List.map_inj_right (fun a b hab => by cases hab; rfl) |>.1 this
      exact k3 E (hEs ▸ hE)
/-- a frame with marks leaves -/
theorem leaves_marks {P : Program} {fn : Func} {tmps : Array Value} {R : Ending → World → Prop} {m n : Nat} {v : Value} (hv : ∀ w, (results fn tmps).run P w = .ok v w) :
    ∀ (ds : List Deferred) (w : World), Marks n ds w → (∀ w', Below n w w' → R (.returned v) w') → LeavesInM Fence.wide m P fn tmps R ds .returning w := by
  intro ds
  induction ds with
  | nil => intro w _ hR; exact ⟨v, hv w, hR w (Below.refl _ _)⟩
  | cons d ds ih =>
    intro w hm hR
    obtain ⟨Ds, h1, h2, h3⟩ := hm
    cases Ds with
    | nil => cases h1
    | cons D Ds =>
      simp only [List.map_cons, List.cons.injEq] at h1
      obtain ⟨rfl, rfl⟩ := h1
      have hD := h3 D (List.mem_cons_self ..)
      have hb : Below n w (w.putObj D (.deferred none)) := (Below.refl _ _).grown (grownBy_putObj' w D _) (by have := (Array.getElem?_eq_some_iff.1 hD.2).1; omega) (fun k e => by cases e; exact hD.1)
      refine ⟨(by simp), .inl ⟨D, _, rfl, run_takeDeferred hD.2, ih _ ⟨Ds, rfl, (List.nodup_cons.1 h2).2, fun E hE => ⟨(h3 E (List.mem_cons_of_mem _ hE)).1, ?_⟩⟩ (fun w' hw' => hR w' (hb.trans hw'))⟩⟩
      have hne : E ≠ D := fun e => (List.nodup_cons.1 h2).1 (e ▸ hE)
      rw [World.putObj_heap_other hne]
      exact (h3 E (List.mem_cons_of_mem _ hE)).2
end Go.Proofs.Ytfigooilhnahfaa
