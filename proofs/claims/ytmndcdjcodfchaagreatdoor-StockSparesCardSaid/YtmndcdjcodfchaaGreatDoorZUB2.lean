/- Steps of the proof: FRng, USpec, UMem, ULaw, UNext, UStk, USpec2, UTask, UCnt, UBuy, UUse, UBuyW, UChk, UGiv. No conditions. -/
import Derived.OwnWalk
import Derived.Lib.Hide
import Derived.Laws.IdiomCopy
import Derived.Laws.EntriesVeiled
import Derived.Test.YtmndcdjcodfchaaGreatDoorZUB1
namespace Go.Proofs.YtmndcdjcodfchaaGreatDoor
open Go.RowKit
attribute [local go_sem] Oper.semAt_some
theorem results_cell1 {fn : Func} {p : Tmp} {t : TypeId} (h : fn.results = #[.cell p t]) (tmps : Array Value) (P : Program) (w : World) :
    (results fn tmps).run P w = ((asAddr (tmps.getD p undef)).run P w).andThen fun a w₁ => (loadVar t a).run P w₁ := by
  simp only [results, h]
  simp [Sem.run_bind, Result.andThen]
theorem leaves_cells {P : Program} {fn : Func} {tmps : Array Value} {R : Ending → World → Prop} {m n : Nat} {v : Value} :
    ∀ (ds : List Deferred) (w : World), Marks n ds w → (∀ w', Keep n w w' → (results fn tmps).run P w' = .ok v w' ∧ R (.returned v) w') → LeavesInM Fence.wide m P fn tmps R ds .returning w := by
  intro ds
  induction ds with
  | nil => intro w _ hR; exact ⟨v, (hR w (Keep.refl _ _)).1, (hR w (Keep.refl _ _)).2⟩
  | cons d ds ih =>
    intro w hm hR
    obtain ⟨Ds, h1, h2, h3⟩ := hm
    cases Ds with
    | nil => cases h1
    | cons D Ds =>
      simp only [List.map_cons, List.cons.injEq] at h1
      obtain ⟨rfl, rfl⟩ := h1
      have hD := h3 D (List.mem_cons_self ..)
      have hb : Keep n w (w.putObj D (.deferred none)) := Keep.turn hD.1 hD.2 rfl
      refine ⟨(by simp), .inl ⟨D, _, rfl, run_takeDeferred hD.2, ih _ ⟨Ds, rfl, (List.nodup_cons.1 h2).2, fun E hE => ⟨(h3 E (List.mem_cons_of_mem _ hE)).1, ?_⟩⟩ (fun w' hw' => hR w' (hb.trans hw'))⟩⟩
      have hne : E ≠ D := fun e => (List.nodup_cons.1 h2).1 (e ▸ hE)
      rw [World.putObj_heap_other hne]
      exact (h3 E (List.mem_cons_of_mem _ hE)).2
theorem Keep.cell {m : Nat} {A B : World} (h : Keep m A B) {p : Addr} {v : Value} (hc : A.cell? p = some v) : B.cell? p = some v := by
  have hlt := cell_lt hc
  obtain ⟨o, ho⟩ : ∃ o, A.heap[p.block]? = some o := ⟨_, Array.getElem?_eq_getElem hlt⟩
  have hr : isRec o = false := by
    cases o <;> simp [World.cell?, ho] at hc <;> rfl
  exact (World.cell?_of_block (w := A) ((h.2 _ _ ho hr).trans ho.symm)).trans hc
theorem Keep.frozen {m : Nat} {A B : World} (h : Keep m A B) {p : Addr} {v : Value} (hc : A.cell? p = some v) : B.frozen? p = A.frozen? p := by
  have hlt := cell_lt hc
  obtain ⟨o, ho⟩ : ∃ o, A.heap[p.block]? = some o := ⟨_, Array.getElem?_eq_getElem hlt⟩
  have hr : isRec o = false := by
    cases o <;> simp [World.cell?, ho] at hc <;> rfl
  exact World.frozen?_of_block (w := A) ((h.2 _ _ ho hr).trans ho.symm)
def Chg (B : Nat → Prop) (A C : World) : Prop := A.heap.size ≤ C.heap.size ∧ ∀ k, k < A.heap.size → ¬ B k → C.heap[k]? = A.heap[k]?
theorem Chg.refl (B : Nat → Prop) (A : World) : Chg B A A := ⟨Nat.le_refl _, fun _ _ _ => rfl⟩
theorem Chg.trans {B : Nat → Prop} {A C D : World} (h : Chg B A C) (k : Chg B C D) : Chg B A D :=
  ⟨Nat.le_trans h.1 k.1, fun i hi hb => (k.2 i (Nat.lt_of_lt_of_le hi h.1) hb).trans (h.2 i hi hb)⟩
theorem Chg.ext {B : Nat → Prop} {A C : World} (h : Ext A C) : Chg B A C := ⟨h.size, fun k hk _ => Below.block h k hk⟩
theorem Chg.setCell {B : Nat → Prop} {A : World} (p : Addr) (v : Value) (hb : B p.block) : Chg B A (A.setCell p v) :=
  ⟨by simp [World.setCell], fun k _ hk => Below.heap_setCell _ _ _ _ (fun e => hk (e ▸ hb))⟩
theorem Chg.app {B : Nat → Prop} {A C : World} {v v' : Value} (h : AppEnd A C v v') (hb : ∀ b, v.ownBlock = some b → B b) : Chg B A C := by
  rcases h with ⟨_, _, hg⟩ | ⟨_, he⟩
  · exact ⟨hg.size, fun k hk hn => hg.block k hk (fun e => hn (hb k e.symm))⟩
  · exact Chg.ext he
theorem Chg.kept {B X : Nat → Prop} {n : Nat} {A C : World} (h : Chg B A C) (hx : ∀ k, X k → k < A.heap.size → ¬ B k) : Kept X n A C :=
  ⟨h.1, fun k o hk ho _ => by
    have hl := (Array.getElem?_eq_some_iff.1 ho).1
    rw [h.2 k hl (hx k hk hl)]; exact ho⟩
theorem Chg.others {B : Nat → Prop} {A C : World} (h : Chg B A C) (hb : ∀ k, B k → ∀ o, A.heap[k]? = some o → o.isCells = true) : KeepsOthers A C :=
  ⟨h.1, fun k o ho hc => by
    have hl := (Array.getElem?_eq_some_iff.1 ho).1
    rw [h.2 k hl (fun hk => by rw [hb k hk o ho] at hc; cases hc)]; exact ho⟩
theorem isCells_of_cell {A : World} {p : Addr} {v : Value} (h : A.cell? p = some v) {o : Obj} (ho : A.heap[p.block]? = some o) : o.isCells = true := by
  cases o <;> simp [World.cell?, ho] at h <;> rfl
theorem rowKeep {m : Nat} {A B : World} {e : TypeId} {s : Nat} {v : Value} {n : Nat} {xs : List Value} (h : A.ownsRow 0 e s v n xs) (k : Keep m A B) : B.ownsRow 0 e s v n xs := rowSame h (fun b hb => by
  rcases h.2 with ⟨hv, _⟩ | ⟨g, c, cur, hv, _, hg, _⟩
  · rw [hv] at hb; cases hb
  · rw [hv] at hb
    cases hb
    rw [hg]
    exact k.2 g _ hg rfl)
theorem prefix_range {pre : List Nat} {x m : Nat} (h : pre ++ [x] <+: List.range m) : x = pre.length ∧ x < m := by
  obtain ⟨t, ht⟩ := h
  have hlen : pre.length < m := by
    have := congrArg List.length ht
    simp at this
    omega
  have h1 : (List.range m)[pre.length]? = some pre.length := List.getElem?_range hlen
  rw [← ht] at h1
  simp at h1
  exact ⟨h1, by omega⟩
def roundB (sb n0 _ : Nat) (I Ix : Nat → World → Prop) (k : Nat) (W : World) : Exit → Act → World → Prop
  | .normal, _, W' => (∃ M : Nat → Prop, Chg M W W' ∧ (∀ b, M b → b ≠ sb ∧ n0 ≤ b) ∧ ∀ b, M b → ∀ o, W.heap[b]? = some o → o.isCells = true) ∧ I (k + 1) W'
  | .ret, _, W' => (∃ M : Nat → Prop, Chg M W W' ∧ (∀ b, M b → b ≠ sb ∧ n0 ≤ b) ∧ ∀ b, M b → ∀ o, W.heap[b]? = some o → o.isCells = true) ∧ Ix (k + 1) W'
  | _, _, _ => False
theorem wp_bwd {g : Operand} {p1 p2 : Tmp} {assign body : Code} {Q : Exit → Act → World → Prop} {a : Act} {w : World}
    (l : List Nat) (la : Option Addr) (cap : Nat) (w0 : World) (sb : Nat) (hl : l.length ≤ 10000) (hc : CellsN .u64 w0 la l) (E0 : Ext w0 w) (s0 : w.cell? ⟨sb, 0, none⟩ = some (.slice la l.length cap))
    (hg : a.eval g = .func (.func 146) #[] #[.pointer (some ⟨sb, 0, none⟩)])
    (I : Nat → World → Prop) (Ix : Nat → World → Prop)
    (hIK : ∀ k A B, I k A → Keep w.heap.size A B → I k B) (hIxK : ∀ k A B, Ix k A → Keep w.heap.size A B → Ix k B)
    (hIE : ∀ k A B, I k A → Ext A B → I k B)
    (h0 : I 0 w) (Ax : Nat → Act → World → Prop) (hAxK : ∀ x a' A B, Ax x a' A → Keep w.heap.size A B → Ax x a' B)
    (hassign : ∀ (l' : Nat) (x k : Nat) (W : World) (K : Act → World → Prop), w.heap.size + 2 ≤ W.heap.size → I k W → (∀ a' W', Ext W W' → Ax x a' W' → K a' W') →
      assign.wpIn (Fence.wide.inRound l') 0 Tryz.prog (Exit.then K (fun _ _ _ => False)) { tmps := (#[p1, p2].zip (bwEnc l x)).foldl (fun t (p, v) => t.setIfInBounds p v) a.tmps, defers := [] } W)
    (hbody : ∀ (l' : Nat) (k : Nat) (a' : Act) (W : World), k < l.length → w.heap.size + 2 ≤ W.heap.size → I k W → Ax k a' W →
      body.wpIn (Fence.wide.inRound l') 0 Tryz.prog (roundB sb w0.heap.size w.heap.size I Ix k W) a' W)
    (hdone : ∀ (D : Nat) (W : World), w.heap.size ≤ D → D < W.heap.size → I l.length W → W.heap[D]? = some (.deferred (some [])) → Q .normal { a with defers := mark D :: a.defers } W)
    (hstop : ∀ (D : Nat) (k : Nat) (W : World), w.heap.size ≤ D → D < W.heap.size → k ≤ l.length → Ix k W → W.heap[D]? = some (.deferred (some [])) → Code.ret.wp Tryz.prog Q { a with defers := mark D :: a.defers } W) :
    (Code.rangeFunc g #[p1, p2] assign body).wp Tryz.prog Q a w := by
  have hsz : sb < w.heap.size := cell_lt s0
  have hz := E0.size
  refine wp_range (n := 0) (gf := 146) (lb := #[.pointer (some ⟨sb, 0, none⟩)]) hg (enters_of Tryz.func146 (by kernel_rfl) rfl)
    (bw1_iter l la cap w0 w sb hl hc E0 s0) (fun q => rfl)
    (fun A B h k o hk ho => by rw [← h]; exact ho)
    (fun pre W => I pre.length W) (fun c pre W => c = .ret ∧ Ix pre.length W)
    (fun pre A B h k => k ▸ h) (fun _ _ _ _ h k => k ▸ h)
    (fun pre A B h k => hIK _ _ _ h k) (fun _ _ _ _ h k => ⟨h.1, hIxK _ _ _ h.2 k⟩)
    h0 Ax hAxK ?assign ?body (fun pre A B h k => hIE _ _ _ h k) ?done ?stop
  case assign =>
    intro l' pre x W K hm hI hK
    exact hassign l' x pre.length W K hm hI hK
  case body =>
    intro l' pre x a' W hpre hm hI hA
    obtain ⟨hx, hxl⟩ := prefix_range hpre
    subst hx
    refine wpIn_mono (hbody l' _ a' W hxl hm hI hA) ?_
    intro e a3 W3 hp
    have hk : ∀ W', (∃ M : Nat → Prop, Chg M W W' ∧ (∀ b, M b → b ≠ sb ∧ w0.heap.size ≤ b) ∧ ∀ b, M b → ∀ o, W.heap[b]? = some o → o.isCells = true) → Kept (BwK sb w0.heap.size (w.heap.size + 2)) (w.heap.size + 2) W W' ∧ KeepsFrom w.heap.size W W' := by
      rintro W' ⟨M, h1, h2, h3⟩
      refine ⟨h1.kept ?_, (h1.others h3).from _⟩
      rintro k (rfl | hk) _ hM
      · exact (h2 _ hM).1 rfl
      · have := (h2 _ hM).2; omega
    cases e with
    | normal => exact ⟨(hk _ hp.1).1, (hk _ hp.1).2, by show I (pre ++ [pre.length]).length W3; rw [List.length_append]; exact hp.2⟩
    | ret => exact ⟨(hk _ hp.1).1, (hk _ hp.1).2, rfl, by show Ix (pre ++ [pre.length]).length W3; rw [List.length_append]; exact hp.2⟩
    | exit id => exact hp.elim
    | goto t => exact hp.elim
    | panic ch => exact hp.elim
    | outgrown => exact hp.elim
  case done =>
    intro D W h1 h2 h3 h4
    rw [List.length_range] at h3
    exact hdone D W h1 h2 h3 h4
  case stop =>
    rintro D c pre W h1 h2 hpre ⟨rfl, h3⟩ h4
    have hlen := hpre.length_le
    rw [List.length_range] at hlen
    exact hstop D pre.length W h1 h2 hlen h3 h4
end Go.Proofs.YtmndcdjcodfchaaGreatDoor
namespace Go.Proofs.YtmndcdjcodfchaaGreatDoor
structure Pk where
  parts : List Int
  price : Int
  most : Int
structure Bst where
  order : List Int
  price : Int
  size : Int
  found : Bool
def pk0 : Pk := ⟨[], 0, 0⟩
def isNeg (x : Int) : Bool := decide (x < 0) || decide (1048576 < x)
def isPos (x : Int) : Bool := decide (0 < x)
def betterS (found : Bool) (bp bs price size : Int) : Bool := !found || (decide (price < bp) || (decide (price = bp) && decide (size < bs)))
def maxK (l : List Int) : Nat → Int
  | 0 => l.getD 0 0
  | k + 1 => max (maxK l k) (l.getD (k + 1) 0)
def useK (p : Pk) (need : List Int) : Nat → Int
  | 0 => 0
  | k + 1 => if 0 < p.parts.getD k 0 ∧ 0 < need.getD k 0 then max (useK p need k) ((need.getD k 0 + p.parts.getD k 0 - 1).tdiv (p.parts.getD k 0)) else useK p need k
def usefulS (p : Pk) (need : List Int) : Int := min (useK p need p.parts.length) p.most
def leftJ (need parts : List Int) (n : Int) (j : Nat) : List Int := (List.range need.length).map fun k => if k < j then need.getD k 0 - n * parts.getD k 0 else need.getD k 0
def leftS (need parts : List Int) (n : Int) : List Int := leftJ need parts n need.length
def iterS {σ : Type} (step : Nat → σ → σ) (s : σ) : Nat → σ
  | 0 => s
  | n + 1 => step n (iterS step s n)
def stopS (need : List Int) (price size : Int) (f : Nat) (s : List Int × Bst) : Option (List Int × Bst) :=
  if betterS s.2.found s.2.price s.2.size price size = false then some s
  else if need.any isPos = false then some (s.1, ⟨s.1.take (s.1.length - f) ++ List.replicate f 0, price, size, true⟩)
  else none
def buyS (pks : List Pk) : Nat → List Int → Int → Int → List Int × Bst → List Int × Bst
  | 0, need, price, size, s => (stopS need price size 0 s).getD s
  | f + 1, need, price, size, s => (stopS need price size (f + 1) s).getD
      (iterS (fun n t => buyS pks f (leftS need (pks.getD (pks.length - (f + 1)) pk0).parts n) (price + n * (pks.getD (pks.length - (f + 1)) pk0).price) (size + n) (t.1.set (pks.length - (f + 1)) n, t.2)) s (usefulS (pks.getD (pks.length - (f + 1)) pk0) need + 1).toNat)
theorem leftJ_len (need parts : List Int) (n : Int) (j : Nat) : (leftJ need parts n j).length = need.length := by simp [leftJ]
theorem leftJ_get (need parts : List Int) (n : Int) (j : Nat) {k : Nat} (h : k < need.length) : (leftJ need parts n j).getD k 0 = if k < j then need.getD k 0 - n * parts.getD k 0 else need.getD k 0 := by
  unfold leftJ
  simp [List.getD, h]
def dotS (f : Pk → Int) : List Pk → List Int → Int
  | p :: ps, n :: o => n * f p + dotS f ps o
  | _, _ => 0
def costS (ps : List Pk) (o : List Int) : Int := dotS Pk.price ps o
def amtS (ps : List Pk) (o : List Int) (k : Nat) : Int := dotS (fun p => p.parts.getD k 0) ps o
theorem dotS_nil (f : Pk → Int) (o : List Int) : dotS f [] o = 0 := by unfold dotS; rfl
def totS : List Int → Int
  | [] => 0
  | n :: o => n + totS o
def meetS (need : List Int) (ps : List Pk) (o : List Int) : Bool := (List.range need.length).all fun k => decide (need.getD k 0 ≤ amtS ps o k)
def ordsS : List Int → List (List Int)
  | [] => [[]]
  | c :: cs => (List.range (c + 1).toNat).flatMap fun (n : Nat) => (ordsS cs).map fun o => (n : Int) :: o
def capsS (M : Int) (ps : List Pk) : List Int := ps.map fun p => min p.most M
structure PksOk (ps : List Pk) (K : Nat) : Prop where
  parts : ∀ p ∈ ps, p.parts.length = K
  num : ∀ p ∈ ps, ∀ x ∈ p.parts, 0 ≤ x
  price : ∀ p ∈ ps, 0 ≤ p.price
  most : ∀ p ∈ ps, 0 ≤ p.most
theorem PksOk.tail {p : Pk} {ps : List Pk} {K : Nat} (h : PksOk (p :: ps) K) : PksOk ps K :=
  ⟨fun q hq => h.parts q (List.mem_cons_of_mem _ hq), fun q hq => h.num q (List.mem_cons_of_mem _ hq), fun q hq => h.price q (List.mem_cons_of_mem _ hq), fun q hq => h.most q (List.mem_cons_of_mem _ hq)⟩
def NonNeg (o : List Int) : Prop := ∀ x ∈ o, (0 : Int) ≤ x
theorem NonNeg.tail {n : Int} {o : List Int} (h : NonNeg (n :: o)) : NonNeg o := fun x hx => h x (List.mem_cons_of_mem _ hx)
theorem meetS_iff {need : List Int} {ps : List Pk} {o : List Int} : meetS need ps o = true ↔ ∀ k, k < need.length → need.getD k 0 ≤ amtS ps o k := by
  unfold meetS
  rw [List.all_eq_true]
  constructor
  · intro h k hk
    exact of_decide_eq_true (h k (List.mem_range.2 hk))
  · intro h k hk
    exact decide_eq_true (h k (List.mem_range.1 hk))
end Go.Proofs.YtmndcdjcodfchaaGreatDoor
namespace Go.Proofs.YtmndcdjcodfchaaGreatDoor
open Go.RowKit
def SliceI (w : World) (v : Value) (l : List Int) : Prop := ∃ a cap, v = .slice a l.length cap ∧ CellsI w a l ∧ l.length ≤ cap ∧ cap ≤ maxLen
theorem SliceI.ext {w w' : World} {v : Value} {l : List Int} (h : SliceI w v l) (he : Ext w w') : SliceI w' v l := by
  obtain ⟨a, cap, h1, h2, h3, h4⟩ := h
  exact ⟨a, cap, h1, h2.ext he, h3, h4⟩
def PkG (w : World) (pa : Option Addr) (pks : List Pk) : Prop :=
  ∀ i, i < pks.length → ∃ b off v, pa = some ⟨b, off, none⟩ ∧ w.cell? ⟨b, off + i * 3, none⟩ = some v ∧ SliceI w v (pks.getD i pk0).parts ∧ w.cell? ⟨b, off + i * 3 + 1, none⟩ = some (.int .i64 (pks.getD i pk0).price) ∧ w.cell? ⟨b, off + i * 3 + 2, none⟩ = some (.int .i64 (pks.getD i pk0).most)
theorem PkG.ext {w w' : World} {pa : Option Addr} {pks : List Pk} (h : PkG w pa pks) (he : Ext w w') : PkG w' pa pks := fun i hi => by
  obtain ⟨b, off, v, h1, h2, h3, h4, h5⟩ := h i hi
  exact ⟨b, off, v, h1, he.cell h2, h3.ext he, he.cell h4, he.cell h5⟩
structure TaskG (w : World) (pks : List Pk) (need : List Int) (pa : Option Addr) (pc : Nat) (na : Option Addr) (nc : Nat) : Prop where
  pk : PkG w pa pks
  nd : CellsI w na need
  p1 : pks.length ≤ pc
  p2 : pc ≤ maxLen
  n1 : need.length ≤ nc
  n2 : nc ≤ maxLen
theorem TaskG.ext {w w' : World} {pks : List Pk} {need : List Int} {pa : Option Addr} {pc : Nat} {na : Option Addr} {nc : Nat} (h : TaskG w pks need pa pc na nc) (he : Ext w w') : TaskG w' pks need pa pc na nc :=
  ⟨h.pk.ext he, h.nd.ext he, h.p1, h.p2, h.n1, h.n2⟩
def taskV (pks : List Pk) (need : List Int) (pa : Option Addr) (pc : Nat) (na : Option Addr) (nc : Nat) : Value := .agg #[.slice pa pks.length pc, .slice na need.length nc]
end Go.Proofs.YtmndcdjcodfchaaGreatDoor
namespace Go.Proofs.YtmndcdjcodfchaaGreatDoor
theorem buy_len (pks : List Pk) : ∀ f need price size s, (buyS pks f need price size s).1.length = s.1.length := by
  intro f
  induction f with
  | zero =>
    intro need price size s
    unfold buyS stopS
    split
    · rfl
    · split <;> rfl
  | succ f ih =>
    intro need price size s
    unfold buyS stopS
    split
    · rfl
    · split
      · rfl
      · simp only [Option.getD_none]
        generalize (usefulS (pks.getD (pks.length - (f + 1)) pk0) need + 1).toNat = u
        induction u with
        | zero => rfl
        | succ u iu =>
          show (buyS pks f _ _ _ _).1.length = _
          rw [ih, List.length_set]
          exact iu
end Go.Proofs.YtmndcdjcodfchaaGreatDoor
namespace Go.Proofs.YtmndcdjcodfchaaGreatDoor
structure Best (M : Int) (need : List Int) (ps : List Pk) (b : Bst) : Prop where
  yes : b.found = true → b.order ∈ ordsS (capsS M ps) ∧ meetS need ps b.order = true ∧ b.price = costS ps b.order ∧ b.size = totS b.order
  no : b.found = false → ∀ o ∈ ordsS (capsS M ps), meetS need ps o = false
  least : ∀ o ∈ ordsS (capsS M ps), meetS need ps o = true → betterS b.found b.price b.size (costS ps o) (totS o) = false
def bst0 : Bst := ⟨[], 0, 0, false⟩
end Go.Proofs.YtmndcdjcodfchaaGreatDoor
namespace Go.Proofs.YtmndcdjcodfchaaGreatDoor
theorem getD_of {α : Type} {l : List α} {i : Nat} {d : α} (h : i < l.length) : l.getD i d = l[i] := by
  rw [List.getD_eq_getElem?_getD, List.getElem?_eq_getElem h]; rfl
theorem getD_mem {α : Type} {l : List α} {i : Nat} {d : α} (h : i < l.length) : l.getD i d ∈ l := by
  rw [getD_of h]; exact List.getElem_mem h
theorem getD_set {l : List Int} {i : Nat} (h : i < l.length) (x : Int) (j : Nat) : (l.set i x).getD j 0 = if j = i then x else l.getD j 0 := by
  rw [List.getD_eq_getElem?_getD, List.getElem?_set]
  by_cases e : i = j
  · subst e; simp [h]
  · rw [if_neg e, if_neg (fun h => e h.symm), List.getD_eq_getElem?_getD]
structure Covers (q p : Pk) : Prop where
  parts : ∀ k, p.parts.getD k 0 ≤ q.parts.getD k 0
  price : q.price ≤ p.price
end Go.Proofs.YtmndcdjcodfchaaGreatDoor
namespace Go.Proofs.YtmndcdjcodfchaaGreatDoor
def parcelS (K : Nat) (p : Pk) : Int := if p.parts.length ≠ K then 8 else if p.parts.any isNeg = true then 2 else if [p.price, p.most].any isNeg = true then 2 else 0
def taskE (K : Nat) : List Pk → Int
  | [] => 0
  | p :: ps => if parcelS K p ≠ 0 then parcelS K p else taskE K ps
def checkS (pks : List Pk) (need : List Int) : Int :=
  if need.length = 0 then 13 else if 16 < need.length then 5 else if need.any isNeg = true then 2 else if 64 < pks.length then 5 else taskE need.length pks
theorem first_hit {K : Nat} {e : Int} : ∀ {pks : List Pk} {k : Nat}, (∀ j, j < k → parcelS K (pks.getD j pk0) = 0) → k < pks.length → parcelS K (pks.getD k pk0) = e → e ≠ 0 → taskE K pks = e := by
  intro pks
  induction pks with
  | nil => intro k _ h; exact absurd h (Nat.not_lt_zero k)
  | cons p ps ih =>
    intro k h1 h2 h3 h4
    unfold taskE
    cases k with
    | zero =>
      have h3 : parcelS K p = e := h3
      rw [h3, if_pos h4]
    | succ k =>
      have h0 : parcelS K p = 0 := h1 0 (by omega)
      rw [h0, if_neg (by simp)]
      exact ih (k := k) (fun j hj => h1 (j + 1) (by omega)) (by simpa using h2) h3 h4
theorem first_end {K : Nat} : ∀ {pks : List Pk}, (∀ j, j < pks.length → parcelS K (pks.getD j pk0) = 0) → taskE K pks = 0 := by
  intro pks
  induction pks with
  | nil => intro _; rfl
  | cons p ps ih =>
    intro h
    unfold taskE
    have h0 : parcelS K p = 0 := h 0 (Nat.zero_lt_succ _)
    rw [h0, if_neg (by simp)]
    exact ih fun j hj => h (j + 1) (by simpa using hj)
theorem first_all {K : Nat} : ∀ {pks : List Pk}, taskE K pks = 0 → ∀ p ∈ pks, parcelS K p = 0 := by
  intro pks
  induction pks with
  | nil => intro _ p hp; cases hp
  | cons q ps ih =>
    intro h p hp
    unfold taskE at h
    by_cases h0 : parcelS K q = 0
    · rw [h0, if_neg (by simp)] at h
      rcases List.mem_cons.1 hp with rfl | hp
      · exact h0
      · exact ih h p hp
    · rw [if_pos h0] at h; exact absurd h h0
theorem isNeg_iff {x : Int} : isNeg x = false ↔ 0 ≤ x ∧ x ≤ 1048576 := by unfold isNeg; simp
theorem any_neg {l : List Int} : l.any isNeg = false ↔ ∀ x ∈ l, 0 ≤ x ∧ x ≤ 1048576 := by
  rw [List.any_eq_false]
  constructor
  · intro h x hx
    have := h x hx
    rw [← isNeg_iff]; simpa using this
  · intro h x hx
    rw [isNeg_iff.2 (h x hx)]; simp
structure Right (pks : List Pk) (need : List Int) : Prop where
  k0 : 0 < need.length
  k1 : need.length ≤ 16
  nd : ∀ x ∈ need, 0 ≤ x ∧ x ≤ 1048576
  pl : pks.length ≤ 64
  parts : ∀ p ∈ pks, p.parts.length = need.length
  num : ∀ p ∈ pks, ∀ x ∈ p.parts, 0 ≤ x ∧ x ≤ 1048576
  price : ∀ p ∈ pks, 0 ≤ p.price ∧ p.price ≤ 1048576
  most : ∀ p ∈ pks, 0 ≤ p.most ∧ p.most ≤ 1048576
theorem right_of {pks : List Pk} {need : List Int} (h : checkS pks need = 0) : Right pks need := by
  unfold checkS at h
  split at h
  · cases h
  · rename_i h1
    split at h
    · cases h
    · rename_i h2
      split at h
      · cases h
      · rename_i h3
        split at h
        · cases h
        · rename_i h4
          have hp := first_all h
          have hq : ∀ p ∈ pks, p.parts.length = need.length ∧ (∀ x ∈ p.parts, 0 ≤ x ∧ x ≤ 1048576) ∧ (0 ≤ p.price ∧ p.price ≤ 1048576) ∧ (0 ≤ p.most ∧ p.most ≤ 1048576) := fun p hm => by
            have := hp p hm
            unfold parcelS at this
            split at this
            · cases this
            · rename_i g1
              split at this
              · cases this
              · rename_i g2
                split at this
                · cases this
                · rename_i g3
                  have g3 := any_neg.1 ((Bool.not_eq_true _).mp g3)
                  exact ⟨by omega, any_neg.1 ((Bool.not_eq_true _).mp g2), g3 _ (by simp), g3 _ (by simp)⟩
          exact ⟨by omega, by omega, any_neg.1 ((Bool.not_eq_true _).mp h3), by omega, fun p hm => (hq p hm).1, fun p hm => (hq p hm).2.1, fun p hm => (hq p hm).2.2.1, fun p hm => (hq p hm).2.2.2⟩
theorem Right.ok {pks : List Pk} {need : List Int} (h : Right pks need) : PksOk pks need.length :=
  ⟨h.parts, fun p hp x hx => (h.num p hp x hx).1, fun p hp => (h.price p hp).1, fun p hp => (h.most p hp).1⟩
def overS (pks : List Pk) (order : List Int) (i : Nat) : Bool := decide (order.getD i 0 < 0) || decide ((pks.getD i pk0).most < order.getD i 0)
def givenS (pks : List Pk) (need order : List Int) : Int :=
  if checkS pks need ≠ 0 then checkS pks need else if order.length ≠ pks.length then 8 else if (List.range order.length).any (overS pks order) = true then 2 else 0
structure Gives (pks : List Pk) (need order : List Int) : Prop where
  r : Right pks need
  len : order.length = pks.length
  num : ∀ i, i < pks.length → 0 ≤ order.getD i 0 ∧ order.getD i 0 ≤ (pks.getD i pk0).most
theorem gives_of {pks : List Pk} {need order : List Int} (h : givenS pks need order = 0) : Gives pks need order := by
  unfold givenS at h
  split at h
  · rename_i g; exact absurd h g
  · rename_i h1
    split at h
    · cases h
    · rename_i h2
      split at h
      · cases h
      · rename_i h3
        refine ⟨right_of (by omega), by omega, fun i hi => ?_⟩
        have h4 : (List.range order.length).any (overS pks order) = false := (Bool.not_eq_true _).mp h3
        rw [List.any_eq_false] at h4
        have := h4 i (List.mem_range.2 (by omega))
        unfold overS at this
        generalize order.getD i 0 = x at this ⊢
        generalize (pks.getD i pk0).most = y at this ⊢
        simp at this
        omega
def costR (pks : List Pk) (need order : List Int) : Int := if givenS pks need order = 0 then costS pks order else 0
def moreS (pks : List Pk) (need order : List Int) : List Int := (List.range need.length).map fun k => amtS pks order k - need.getD k 0
def lackB (x : Int) : Bool := decide (x < 0)
def verifyS (pks : List Pk) (need order : List Int) : Int := if givenS pks need order ≠ 0 then givenS pks need order else if (moreS pks need order).any lackB = true then 15 else 0
def restL (pks : List Pk) (need order : List Int) : List Int := if verifyS pks need order = 0 then moreS pks need order else []
theorem moreS_len (pks : List Pk) (need order : List Int) : (moreS pks need order).length = need.length := by unfold moreS; simp
theorem moreS_get (pks : List Pk) (need order : List Int) {k : Nat} (h : k < need.length) : (moreS pks need order).getD k 0 = amtS pks order k - need.getD k 0 := by
  rw [getD_of (by rw [moreS_len]; exact h)]
  unfold moreS
  simp
theorem more_meet {pks : List Pk} {need order : List Int} : (moreS pks need order).any lackB = !meetS need pks order := by
  cases hm : meetS need pks order
  · have h : ¬ (moreS pks need order).any lackB = false := by
      intro h
      rw [List.any_eq_false] at h
      have : meetS need pks order = true := by
        rw [meetS_iff]
        intro k hk
        have h2 := h _ (getD_mem (d := 0) (show k < (moreS pks need order).length by rw [moreS_len]; exact hk))
        rw [moreS_get _ _ _ hk] at h2
        unfold lackB at h2
        simp only [decide_eq_true_eq] at h2
        omega
      rw [hm] at this
      cases this
    simpa using h
  · rw [meetS_iff] at hm
    show _ = false
    rw [List.any_eq_false]
    intro x hx
    obtain ⟨i, hi, e⟩ := List.mem_iff_getElem.1 hx
    rw [moreS_len] at hi
    have h2 := moreS_get pks need order hi
    rw [getD_of (by rw [moreS_len]; exact hi)] at h2
    have h3 := hm i hi
    unfold lackB
    simp only [decide_eq_true_eq]
    omega
def dotT (f : Pk → Int) (ps : List Pk) (o : List Int) (j : Nat) : Int := dotS f (ps.take j) (o.take j)
theorem dotT_zero (f : Pk → Int) (ps : List Pk) (o : List Int) : dotT f ps o 0 = 0 := by unfold dotT; rw [List.take_zero, List.take_zero, dotS_nil]
theorem dotT_succ (f : Pk → Int) : ∀ {ps : List Pk} {o : List Int} {j : Nat}, j < ps.length → j < o.length → dotT f ps o (j + 1) = dotT f ps o j + o.getD j 0 * f (ps.getD j pk0) := by
  intro ps
  induction ps with
  | nil => intro o j h; exact absurd h (Nat.not_lt_zero j)
  | cons p ps ih =>
    intro o j h1 h2
    cases o with
    | nil => exact absurd h2 (Nat.not_lt_zero j)
    | cons n o =>
      cases j with
      | zero =>
        rw [dotT_zero]
        show n * f p + dotS f (ps.take 0) (o.take 0) = 0 + n * f p
        rw [List.take_zero, dotS_nil]; omega
      | succ j =>
        have := ih (o := o) (j := j) (by simpa using h1) (by simpa using h2)
        show n * f p + dotT f ps o (j + 1) = n * f p + dotT f ps o j + o.getD j 0 * f (ps.getD j pk0)
        omega
theorem dotT_full (f : Pk → Int) {ps : List Pk} {o : List Int} (h : o.length = ps.length) {j : Nat} (hj : j = ps.length) : dotT f ps o j = dotS f ps o := by
  unfold dotT
  rw [List.take_of_length_le (by omega), List.take_of_length_le (by omega)]
theorem dotT_bd {f : Pk → Int} {ps : List Pk} {o : List Int} {B C : Int} (hB : 0 ≤ B) (hf : ∀ p ∈ ps, 0 ≤ f p ∧ f p ≤ C) (ho : ∀ i, i < ps.length → 0 ≤ o.getD i 0 ∧ o.getD i 0 ≤ B) (hl : o.length = ps.length) : ∀ j, j ≤ ps.length → 0 ≤ dotT f ps o j ∧ dotT f ps o j ≤ j * (B * C) := by
  intro j
  induction j with
  | zero => intro _; rw [dotT_zero]; omega
  | succ j ih =>
    intro hj
    obtain ⟨i1, i2⟩ := ih (by omega)
    rw [dotT_succ f (by omega) (by omega)]
    have h1 := ho j (by omega)
    have h2 := hf _ (getD_mem (d := pk0) (show j < ps.length by omega))
    have h3 : 0 ≤ o.getD j 0 * f (ps.getD j pk0) := Int.mul_nonneg h1.1 h2.1
    have h4 : o.getD j 0 * f (ps.getD j pk0) ≤ B * C := Int.mul_le_mul h1.2 h2.2 h2.1 hB
    rw [show ((j + 1 : Nat) : Int) = (j : Int) + 1 by omega, Int.add_mul]
    omega
end Go.Proofs.YtmndcdjcodfchaaGreatDoor
namespace Go.Proofs.YtmndcdjcodfchaaGreatDoor
structure TaskOk (pks : List Pk) (K : Nat) : Prop where
  len : pks.length ≤ 5
  kinds : K ≤ 16
  parts : ∀ p ∈ pks, p.parts.length = K
  num : ∀ p ∈ pks, ∀ x ∈ p.parts, 0 ≤ x ∧ x ≤ 1048576
  price : ∀ p ∈ pks, 0 ≤ p.price ∧ p.price ≤ 1048576
  most : ∀ p ∈ pks, 0 ≤ p.most ∧ p.most ≤ 1048576
structure NeedOk (need : List Int) (price size : Int) (K i : Nat) : Prop where
  len : need.length = K
  num : ∀ k, k < K → -(i * 67108864 : Int) ≤ need.getD k 0 ∧ need.getD k 0 ≤ 20
  price : 0 ≤ price ∧ price ≤ i * 67108864
  size : 0 ≤ size ∧ size ≤ i * 20
theorem useK_bd {p : Pk} {need : List Int} {K : Nat} (hp : ∀ x ∈ p.parts, 0 ≤ x ∧ x ≤ 1048576) (hn : ∀ k, k < K → need.getD k 0 ≤ 20) : ∀ k, k ≤ K → k ≤ p.parts.length → 0 ≤ useK p need k ∧ useK p need k ≤ 20 := by
  intro k
  induction k with
  | zero => intro _ _; simp [useK]
  | succ k ih =>
    intro h1 h2
    have hi := ih (by omega) (by omega)
    have h3 := hn k (by omega)
    have h4 : 0 ≤ p.parts.getD k 0 ∧ p.parts.getD k 0 ≤ 1048576 := hp _ (by rw [List.getD_eq_getElem?_getD, List.getElem?_eq_getElem (by omega)]; simp)
    unfold useK
    generalize need.getD k 0 = x at h3 ⊢
    generalize p.parts.getD k 0 = y at h4 ⊢
    split
    · rename_i h
      obtain ⟨hy, hx⟩ := h
      have hd : 0 ≤ (x + y - 1).tdiv y ∧ (x + y - 1).tdiv y ≤ 20 := by
        rw [Int.tdiv_eq_ediv_of_nonneg (by omega)]
        refine ⟨Int.ediv_nonneg (by omega) (by omega), ?_⟩
        have h9 : (x + y - 1) / y ≤ x := by
          have : x + y - 1 < (x + 1) * y := by
            have h10 : 0 ≤ x * (y - 1) := Int.mul_nonneg (by omega) (by omega)
            have h11 : (x + 1) * y = x * (y - 1) + x + y := by rw [Int.add_mul, Int.mul_sub]; omega
            omega
          have := Int.ediv_lt_of_lt_mul (by omega) this
          omega
        omega
      omega
    · exact hi
theorem usefulS_bd {p : Pk} {need : List Int} {price size : Int} {K i : Nat} {pks : List Pk} (ht : TaskOk pks K) (hp : p ∈ pks) (hn : NeedOk need price size K i) : 0 ≤ usefulS p need ∧ usefulS p need ≤ 20 := by
  have h1 := useK_bd (p := p) (need := need) (K := K) (ht.num p hp) (fun k hk => (hn.num k hk).2) p.parts.length (by rw [ht.parts p hp]; exact Nat.le_refl _) (Nat.le_refl _)
  have h2 := ht.most p hp
  unfold usefulS
  omega
theorem need_next {p : Pk} {need : List Int} {price size : Int} {K i n : Nat} {pks : List Pk} (ht : TaskOk pks K) (hp : p ∈ pks) (hn : NeedOk need price size K i) (h : (n : Int) ≤ 20) : NeedOk (leftS need p.parts n) (price + n * p.price) (size + n) K (i + 1) := by
  have h2 := ht.price p hp
  have h3 := hn.price
  have h4 := hn.size
  have hpr : 0 ≤ (n : Int) * p.price ∧ (n : Int) * p.price ≤ 20 * 1048576 := ⟨Int.mul_nonneg (by omega) h2.1, Int.mul_le_mul h h2.2 h2.1 (by omega)⟩
  refine ⟨by unfold leftS; rw [leftJ_len]; exact hn.len, fun k hk => ?_, ⟨by omega, by push_cast; omega⟩, ⟨by omega, by push_cast; omega⟩⟩
  unfold leftS
  have hk2 : k < need.length := by rw [hn.len]; exact hk
  rw [leftJ_get _ _ _ _ hk2, if_pos hk2]
  have h5 := hn.num k hk
  have h6 : 0 ≤ p.parts.getD k 0 ∧ p.parts.getD k 0 ≤ 1048576 := ht.num p hp _ (by rw [List.getD_eq_getElem?_getD, List.getElem?_eq_getElem (by rw [ht.parts p hp]; exact hk)]; simp)
  have h7 : 0 ≤ (n : Int) * p.parts.getD k 0 ∧ (n : Int) * p.parts.getD k 0 ≤ 20 * 1048576 := ⟨Int.mul_nonneg (by omega) h6.1, Int.mul_le_mul h h6.2 h6.1 (by omega)⟩
  push_cast
  omega
def threeP : List Pk := [⟨[1, 0], 5, 9⟩, ⟨[0, 1], 4, 9⟩, ⟨[2, 2], 12, 9⟩]
end Go.Proofs.YtmndcdjcodfchaaGreatDoor
namespace Go.Proofs.YtmndcdjcodfchaaGreatDoor
open Go.RowKit
theorem isNeg_any (x : Int) (w : World) : Calls Tryz.prog 95 #[.int .i64 x] w fun e w' => e = .returned (.bool (isNeg x)) ∧ Ext w w' := by
  unfold isNeg
  by_cases h1 : x < 0
  · go_enter Tryz.func95, Tryz.ntmps95
    go_wp2
    all_goals go_ret
    all_goals exact ⟨ret_bool (by first | (simp; done) | (simp; omega)), Ext.refl _⟩
  · go_enter Tryz.func95, Tryz.ntmps95
    go_wp2
    all_goals go_ret
    all_goals exact ⟨ret_bool (by first | (simp; done) | (simp; omega)), Ext.refl _⟩
set_option maxHeartbeats 1000000 in
theorem IndexNeg_any (l : List Int) (n : Nat) (a : Option Addr) (cap : Nat) (w : World) (hn : n = l.length) (hl : n ≤ maxLen) (hc : CellsI w a l) :
    Calls Tryz.prog 71 #[.slice a n cap, .func (.func 95) #[] #[]] w fun e w' => ∃ r : Int, e = .returned (.int .i64 r) ∧ decide (0 ≤ r) = l.any isNeg ∧ Ext w w' := by
  unfold maxLen at hl
  have HC := Lib.hid hc
  have HN := Lib.hid hn
  clear hc hn
  go_enter Tryz.func71, Tryz.ntmps71
  go_wp2
  go_loopw [8] (fun i wr => ∃ k : Nat, k ≤ n ∧ i = .int .i64 k ∧ Hid (∀ j, j < k → isNeg (l.getD j 0) = false) ∧ Ext w wr) (fun i _ => n - (intOf i).toNat)
  case atStart => exact ⟨0, Nat.zero_le _, rfl, fun j hj => by omega, Ext.refl _⟩
  case round =>
    obtain ⟨k, hk, rfl, hnn, he⟩ := hrel
    by_cases hlt : k < n
    · have hlt' : (k : Int) < (n : Int) := by omega
      obtain ⟨b, off, rfl, c1⟩ := HC.out.ext he k (by rw [← HN.out]; exact hlt)
      have HM : Hid (l.getD k 0 ∈ l) := by
        show _ ∈ _
        have h := HN.out
        rw [List.getD_eq_getElem?_getD, List.getElem?_eq_getElem (show k < l.length by omega)]; simp
      generalize hx : l.getD k 0 = x at c1 HM
      have HX := Lib.hid hx
      clear hx
      have z1 := cell_lt c1
      dsimp only at z1
      go_wp2_with fail
      refine (isNeg_any x _).mono ?_
      rintro e w1 ⟨rfl, hE⟩
      have E1 := he.trans hE
      cases hp : isNeg x
      · go_wp2
        refine ⟨⟨k + 1, by omega, by go_num, fun j hj => ?_, E1⟩, by simp [intOf]; omega⟩
        rcases Nat.lt_or_eq_of_le (Nat.le_of_lt_succ hj) with h | rfl
        · exact hnn.out j h
        · rw [HX.out]; exact hp
      · have HA : Hid (l.any isNeg = true) := List.any_eq_true.2 ⟨x, HM.out, hp⟩
        go_wp2
        go_ret
        exact ⟨(k : Int), rfl, by rw [HA.out]; simp, E1⟩
    · have hlt' : ¬ (k : Int) < (n : Int) := by omega
      have HA : Hid (l.any isNeg = false) := by
        show _ = _
        rw [List.any_eq_false]
        intro x hx
        obtain ⟨i, hi, e⟩ := List.mem_iff_getElem.1 hx
        have := hnn.out i (by have h := HN.out; omega)
        rw [List.getD_eq_getElem?_getD, List.getElem?_eq_getElem hi] at this
        simp at this
        rw [← e, this]; simp
      go_wp2
      go_ret
      exact ⟨-1, rfl, by rw [HA.out]; simp, he⟩
set_option maxHeartbeats 2000000 in
theorem ContainsNeg_any (l : List Int) (n : Nat) (a : Option Addr) (cap : Nat) (w : World) (hn : n = l.length) (hl : n ≤ maxLen) (hc : CellsI w a l) :
    Calls Tryz.prog 44 #[.slice a n cap, .func (.func 95) #[] #[]] w fun e w' => e = .returned (.bool (l.any isNeg)) ∧ Ext w w' := by
  have HC := Lib.hid hc
  have HN := Lib.hid hn
  have HL := Lib.hid hl
  clear hc hn hl
  go_enter Tryz.func44, Tryz.ntmps44
  go_wp2_with fail
  refine (IndexNeg_any l n a cap _ HN.out HL.out HC.out).mono ?_
  rintro e w1 ⟨r, rfl, hr, hE⟩
  have HR := Lib.hid hr
  clear hr
  go_wp2
  all_goals go_ret
  all_goals exact ⟨ret_bool HR.out, hE⟩
theorem isPos_any (x : Int) (w : World) : Calls Tryz.prog 45 #[.int .i64 x] w fun e w' => e = .returned (.bool (isPos x)) ∧ Ext w w' := by
  unfold isPos
  by_cases h1 : 0 < x
  · go_enter Tryz.func45, Tryz.ntmps45
    go_wp2
    all_goals go_ret
    all_goals exact ⟨ret_bool (by first | (simp; done) | (simp; omega)), Ext.refl _⟩
  · go_enter Tryz.func45, Tryz.ntmps45
    go_wp2
    all_goals go_ret
    all_goals exact ⟨ret_bool (by first | (simp; done) | (simp; omega)), Ext.refl _⟩
set_option maxHeartbeats 1000000 in
theorem IndexPos_any (l : List Int) (n : Nat) (a : Option Addr) (cap : Nat) (w : World) (hn : n = l.length) (hl : n ≤ maxLen) (hc : CellsI w a l) :
    Calls Tryz.prog 71 #[.slice a n cap, .func (.func 45) #[] #[]] w fun e w' => ∃ r : Int, e = .returned (.int .i64 r) ∧ decide (0 ≤ r) = l.any isPos ∧ Ext w w' := by
  unfold maxLen at hl
  have HC := Lib.hid hc
  have HN := Lib.hid hn
  clear hc hn
  go_enter Tryz.func71, Tryz.ntmps71
  go_wp2
  go_loopw [8] (fun i wr => ∃ k : Nat, k ≤ n ∧ i = .int .i64 k ∧ Hid (∀ j, j < k → isPos (l.getD j 0) = false) ∧ Ext w wr) (fun i _ => n - (intOf i).toNat)
  case atStart => exact ⟨0, Nat.zero_le _, rfl, fun j hj => by omega, Ext.refl _⟩
  case round =>
    obtain ⟨k, hk, rfl, hnn, he⟩ := hrel
    by_cases hlt : k < n
    · have hlt' : (k : Int) < (n : Int) := by omega
      obtain ⟨b, off, rfl, c1⟩ := HC.out.ext he k (by rw [← HN.out]; exact hlt)
      have HM : Hid (l.getD k 0 ∈ l) := by
        show _ ∈ _
        have h := HN.out
        rw [List.getD_eq_getElem?_getD, List.getElem?_eq_getElem (show k < l.length by omega)]; simp
      generalize hx : l.getD k 0 = x at c1 HM
      have HX := Lib.hid hx
      clear hx
      have z1 := cell_lt c1
      dsimp only at z1
      go_wp2_with fail
      refine (isPos_any x _).mono ?_
      rintro e w1 ⟨rfl, hE⟩
      have E1 := he.trans hE
      cases hp : isPos x
      · go_wp2
        refine ⟨⟨k + 1, by omega, by go_num, fun j hj => ?_, E1⟩, by simp [intOf]; omega⟩
        rcases Nat.lt_or_eq_of_le (Nat.le_of_lt_succ hj) with h | rfl
        · exact hnn.out j h
        · rw [HX.out]; exact hp
      · have HA : Hid (l.any isPos = true) := List.any_eq_true.2 ⟨x, HM.out, hp⟩
        go_wp2
        go_ret
        exact ⟨(k : Int), rfl, by rw [HA.out]; simp, E1⟩
    · have hlt' : ¬ (k : Int) < (n : Int) := by omega
      have HA : Hid (l.any isPos = false) := by
        show _ = _
        rw [List.any_eq_false]
        intro x hx
        obtain ⟨i, hi, e⟩ := List.mem_iff_getElem.1 hx
        have := hnn.out i (by have h := HN.out; omega)
        rw [List.getD_eq_getElem?_getD, List.getElem?_eq_getElem hi] at this
        simp at this
        rw [← e, this]; simp
      go_wp2
      go_ret
      exact ⟨-1, rfl, by rw [HA.out]; simp, he⟩
set_option maxHeartbeats 2000000 in
theorem ContainsPos_any (l : List Int) (n : Nat) (a : Option Addr) (cap : Nat) (w : World) (hn : n = l.length) (hl : n ≤ maxLen) (hc : CellsI w a l) :
    Calls Tryz.prog 44 #[.slice a n cap, .func (.func 45) #[] #[]] w fun e w' => e = .returned (.bool (l.any isPos)) ∧ Ext w w' := by
  have HC := Lib.hid hc
  have HN := Lib.hid hn
  have HL := Lib.hid hl
  clear hc hn hl
  go_enter Tryz.func44, Tryz.ntmps44
  go_wp2_with fail
  refine (IndexPos_any l n a cap _ HN.out HL.out HC.out).mono ?_
  rintro e w1 ⟨r, rfl, hr, hE⟩
  have HR := Lib.hid hr
  clear hr
  go_wp2
  all_goals go_ret
  all_goals exact ⟨ret_bool HR.out, hE⟩
theorem counts_any (l : List Int) (n : Nat) (a : Option Addr) (cap : Nat) (w : World) (hn : n = l.length) (hl : n ≤ maxLen) (hc : CellsI w a l) :
    Calls Tryz.prog 65 #[.slice a n cap] w fun e w' => e = .returned (.bool (!l.any isNeg)) ∧ Ext w w' := by
  have HC := Lib.hid hc
  have HN := Lib.hid hn
  have HL := Lib.hid hl
  clear hc hn hl
  go_enter Tryz.func65, Tryz.ntmps65
  go_wp2_with fail
  refine (ContainsNeg_any l n a cap _ HN.out HL.out HC.out).mono ?_
  rintro e w1 ⟨rfl, hE⟩
  go_wp2
  go_ret
  exact ⟨rfl, hE⟩
set_option maxHeartbeats 1000000 in
theorem better_any (bb : Nat) (found : Bool) (bp bs price size : Int) (w : World) (h1 : w.cell? ⟨bb, 1, none⟩ = some (.int .i64 bp)) (h2 : w.cell? ⟨bb, 2, none⟩ = some (.int .i64 bs)) (h3 : w.cell? ⟨bb, 3, none⟩ = some (.bool found)) :
    Calls Tryz.prog 43 #[.pointer (some ⟨bb, 0, none⟩), .int .i64 price, .int .i64 size] w fun e w' => e = .returned (.bool (betterS found bp bs price size)) ∧ Ext w w' := by
  unfold betterS
  have z1 := cell_lt h1
  dsimp only at z1
  cases found
  · go_enter Tryz.func43, Tryz.ntmps43
    go_wp2
    all_goals go_ret
    all_goals exact ⟨rfl, Ext.refl _⟩
  · by_cases k1 : price < bp
    · go_enter Tryz.func43, Tryz.ntmps43
      go_wp2
      all_goals go_ret
      all_goals exact ⟨ret_bool (by simp [k1]), Ext.refl _⟩
    · by_cases k2 : price = bp
      · have k2' : (price == bp) = true := by simp [k2]
        go_enter Tryz.func43, Tryz.ntmps43
        go_wp2
        all_goals go_ret
        all_goals exact ⟨ret_bool (by simp), Ext.refl _⟩
      · have k2' : (price == bp) = false := by simp [k2]
        go_enter Tryz.func43, Tryz.ntmps43
        go_wp2
        all_goals go_ret
        all_goals exact ⟨ret_bool (by simp [k1]), Ext.refl _⟩
set_option maxHeartbeats 1000000 in
theorem Max_any (l : List Int) (n : Nat) (a : Option Addr) (cap : Nat) (w : World) (hn : n + 1 = l.length) (hl : n + 1 ≤ maxLen) (hc : CellsI w a l) :
    Calls Tryz.prog 41 #[.slice a (n + 1) cap] w fun e w' => e = .returned (.int .i64 (maxK l n)) ∧ Ext w w' := by
  unfold maxLen at hl
  have HC := Lib.hid hc
  have HN := Lib.hid hn
  obtain ⟨b, off, rfl, c0⟩ := hc 0 (by omega)
  have c0 : w.cell? ⟨b, off, none⟩ = some (.int .i64 (l.getD 0 0)) := by simpa using c0
  have z0 := cell_lt c0
  dsimp only at z0
  have q0 : ¬ (n : Int) + 1 < 1 := by omega
  have q1 : (0 : Int) < (n : Int) + 1 := by omega
  clear hc hn
  go_enter Tryz.func41, Tryz.ntmps41
  go_wp2
  go_loopw [3, 4] (fun m i wr => ∃ k : Nat, k ≤ n ∧ i = .int .i64 ((k : Int) + 1) ∧ m = .int .i64 (maxK l k) ∧ Ext w wr) (fun _ i _ => n + 1 - (intOf i).toNat)
  case atStart => exact ⟨0, Nat.zero_le _, rfl, rfl, Ext.refl _⟩
  case round =>
    obtain ⟨k, hk, rfl, rfl, he⟩ := hrel
    by_cases hlt : k < n
    · have hlt' : (k : Int) + 1 < (n : Int) + 1 := by omega
      obtain ⟨b', off', hb', c1⟩ := HC.out.ext he (k + 1) (by rw [← HN.out]; omega)
      cases hb'
      have hm : maxK l (k + 1) = max (maxK l k) (l.getD (k + 1) 0) := rfl
      generalize l.getD (k + 1) 0 = x at c1 hm
      generalize maxK l k = y at hm ⊢
      have HM := Lib.hid hm
      clear hm
      have i5 : IntKind.i64.wrap ((k : Int) + 1 + 1) = (k : Int) + 1 + 1 := IntWalk.i64_in _ (by omega)
      have i3 : (0 : Int) ≤ (k : Int) + 1 := by omega
      have z1 := cell_lt c1
      dsimp only at z1
      go_wp2
      all_goals refine ⟨⟨k + 1, by omega, by go_num, ?_, he⟩, by simp [intOf]; omega⟩
      all_goals (first | (rw [HM.out]; done) | (rw [HM.out]; congr 1; omega))
    · have hke : k = n := by omega
      subst hke
      have hlt' : ¬ (k : Int) + 1 < (k : Int) + 1 := by omega
      go_wp2
      go_ret
      exact ⟨rfl, he⟩
end Go.Proofs.YtmndcdjcodfchaaGreatDoor
namespace Go.Proofs.YtmndcdjcodfchaaGreatDoor
open Go.RowKit
theorem infoIn : (Tryz.prog.info? 3).map (fun i => (i.zero, i.size, i.bytes)) = some (some (.int .i64 0), 1, 8) := by kernel_rfl
theorem sizeIn : (Tryz.prog.info? 3).map (·.size) = some 1 := by kernel_rfl
theorem run_copyI {P : Program} (w : World) (T : TypeId) (elem : TypeId) (hu : P.underlying T = some (.slice elem)) (hsz : (P.info? elem).map (·.size) = some 1)
    (g dLen dCap : Nat) (sp : Option Addr) (sLen sCap : Nat) (cs : List Int) (hn : cs.length = Nat.min sLen dLen) (hsrc : CellsI w sp cs) (hc : ∀ j, j < cs.length → (w.cell? ⟨g, j, none⟩).isSome = true) (hf : ∀ j, j < cs.length → w.frozen? ⟨g, j, none⟩ = false) (ty : TypeId) :
    (Builtin.copy_ #[T, T] ty #[.slice (some ⟨g, 0, none⟩) dLen dCap, .slice sp sLen sCap]).run P w = .ok (goInt cs.length) (w.setCells g 0 (vals cs)) := by
  by_cases h0 : cs.length = 0
  · have hz : cs = [] := List.eq_nil_of_length_eq_zero h0
    subst hz
    exact run_copy_none w T T ty elem (some ⟨g, 0, none⟩) sp dLen dCap sLen sCap hu hsz (by simpa using hn.symm)
  · obtain ⟨b, off, rfl, _⟩ := hsrc 0 (by omega)
    have hv : (vals cs).length = cs.length := by simp [vals]
    have := run_copy_cells (P := P) w T T ty elem g 0 dLen dCap ⟨b, off, none⟩ sLen sCap (vals cs) hu hsz (by rw [hv, hn]) (fun j v hj => by
      have hjl : j < cs.length := by rw [← hv]; exact (List.getElem?_eq_some_iff.1 hj).1
      obtain ⟨b', off', h1, h2⟩ := hsrc j hjl
      cases h1
      rw [Addr.add_lit, h2, ← hj]
      simp [vals, List.getD, hjl]) (fun j hj => by rw [Nat.zero_add]; exact hc j (by rwa [hv] at hj)) (fun j hj => by rw [Nat.zero_add]; exact hf j (by rwa [hv] at hj)) (fun v hv2 => by
      obtain ⟨x, _, rfl⟩ := List.mem_map.1 hv2; rfl)
    rw [hv] at this
    exact this
def ArrI (w : World) (b : Nat) (l : List Int) : Prop := ∀ j, j < l.length → w.cell? ⟨b, j, none⟩ = some (.int .i64 (l.getD j 0)) ∧ w.frozen? ⟨b, j, none⟩ = false
theorem ArrI.cells {w : World} {b : Nat} {l : List Int} (h : ArrI w b l) : CellsI w (some ⟨b, 0, none⟩) l := fun i hi => ⟨b, 0, rfl, by rw [Nat.zero_add]; exact (h i hi).1⟩
theorem ArrI.set {w : World} {b : Nat} {l : List Int} (h : ArrI w b l) {i : Nat} (hi : i < l.length) (x : Int) : ArrI (w.setCell ⟨b, i, none⟩ (.int .i64 x)) b (l.set i x) := fun j hj => by
  rw [List.length_set] at hj
  refine ⟨?_, by rw [World.frozen?_setCell]; exact (h j hj).2⟩
  have hg : (l.set i x).getD j 0 = if j = i then x else l.getD j 0 := by
    rw [List.getD_eq_getElem?_getD, List.getElem?_set]
    by_cases e : i = j
    · subst e; simp [hi]
    · rw [if_neg e, if_neg (fun h => e h.symm), List.getD_eq_getElem?_getD]
  rw [hg]
  by_cases e : j = i
  · subst e; rw [World.cell?_setCell_same _ _ _ (h j hj).1, if_pos rfl]
  · rw [World.cell?_setCell_other _ _ _ _ (fun h => e (by simp only [Addr.mk.injEq, true_and, and_true] at h; exact h.symm)), (h j hj).1, if_neg e]
theorem ArrI.same {w w' : World} {b : Nat} {l : List Int} (h : ArrI w b l) (he : w'.heap[b]? = w.heap[b]?) : ArrI w' b l := fun j hj =>
  ⟨(World.cell?_of_block (w := w) (a := ⟨b, j, none⟩) he).trans (h j hj).1, (World.frozen?_of_block (w := w) (a := ⟨b, j, none⟩) he).trans (h j hj).2⟩
theorem ArrI.lt {w : World} {b : Nat} {l : List Int} (h : ArrI w b l) (hl : 0 < l.length) : b < w.heap.size := cell_lt (h 0 hl).1
theorem ArrI.lay {w : World} {b : Nat} {l cs : List Int} (h : ArrI w b l) (hc : cs.length ≤ l.length) : ArrI (w.setCells b 0 (vals cs)) b (cs ++ l.drop cs.length) := fun j hj => by
  rw [List.length_append, List.length_drop] at hj
  have hv : (vals cs).length = cs.length := by simp [vals]
  refine ⟨?_, by rw [World.frozen?_setCells]; exact (h j (by omega)).2⟩
  by_cases e : j < cs.length
  · have := World.cell?_setCells_in b (vals cs) 0 w (fun t ht => by rw [Nat.zero_add, (h t (by omega)).1]; rfl) j (by omega)
    rw [Nat.zero_add] at this
    rw [this, List.getD_eq_getElem?_getD, List.getElem?_append_left e]
    simp [vals, e]
  · rw [World.cell?_setCells_out b _ 0 w _ (fun _ _ => Or.inr (by rw [hv]; dsimp only; omega)), (h j (by omega)).1, List.getD_eq_getElem?_getD, List.getD_eq_getElem?_getD, List.getElem?_append_right (by omega), List.getElem?_drop, show cs.length + (j - cs.length) = j by omega]
theorem CellsI.chg2 {B : Nat → Prop} {w w' : World} {a : Option Addr} {l : List Int} (h : CellsI w a l) (he : Chg B w w') (hm : ∀ b off, a = some ⟨b, off, none⟩ → ¬ B b) : CellsI w' a l := fun i hi => by
  obtain ⟨b, off, h1, h2⟩ := h i hi
  exact ⟨b, off, h1, (World.cell?_of_block (w := w) (a := ⟨b, _, none⟩) (he.2 b (cell_lt h2) (hm b off h1))).trans h2⟩
def BX (bb nwb : Nat) : Nat → Prop := fun k => k = bb ∨ k = nwb
def buyV (bb nb xb fb : Nat) : Value := .func (.func 42) #[] #[.pointer (some ⟨bb, 0, none⟩), .pointer (some ⟨nb, 0, none⟩), .pointer (some ⟨xb, 0, none⟩), .pointer (some ⟨fb, 0, none⟩)]
def PksAt (w : World) (X : Nat → Prop) (pa : Option Addr) (K : Nat) (pks : List Pk) : Prop :=
  ∀ i, i < pks.length → ∃ b off ai ci, pa = some ⟨b, off, none⟩ ∧ w.cell? ⟨b, off + i * 3, none⟩ = some (.slice ai K ci) ∧ w.cell? ⟨b, off + i * 3 + 1, none⟩ = some (.int .i64 (pks.getD i pk0).price) ∧ w.cell? ⟨b, off + i * 3 + 2, none⟩ = some (.int .i64 (pks.getD i pk0).most) ∧ CellsI w ai (pks.getD i pk0).parts ∧ ¬ X b ∧ ∀ b' o', ai = some ⟨b', o', none⟩ → ¬ X b'
theorem cell_chg {X : Nat → Prop} {A B : World} (c : Chg X A B) {b o : Nat} {v : Value} (h : A.cell? ⟨b, o, none⟩ = some v) (hn : ¬ X b) : B.cell? ⟨b, o, none⟩ = some v :=
  (World.cell?_of_block (w := A) (a := ⟨b, o, none⟩) (c.2 b (cell_lt h) hn)).trans h
theorem PksAt.chg {A B : World} {X : Nat → Prop} {pa : Option Addr} {K : Nat} {pks : List Pk} (h : PksAt A X pa K pks) (c : Chg X A B) : PksAt B X pa K pks := fun i hi => by
  obtain ⟨b, off, ai, ci, h1, h2, h3, h4, h5, h6, h7⟩ := h i hi
  exact ⟨b, off, ai, ci, h1, cell_chg c h2 h6, cell_chg c h3 h6, cell_chg c h4 h6, h5.chg2 c h7, h6, h7⟩
structure EnvB (w : World) (pks : List Pk) (K xb nb fb bb nwb : Nat) (pa : Option Addr) (pc : Nat) : Prop where
  x0 : w.cell? ⟨xb, 0, none⟩ = some (.slice pa pks.length pc)
  n0 : w.cell? ⟨nb, 0, none⟩ = some (.slice (some ⟨nwb, 0, none⟩) pks.length pks.length)
  f0 : w.cell? ⟨fb, 0, none⟩ = some (buyV bb nb xb fb)
  pk : PksAt w (BX bb nwb) pa K pks
  xn : ¬ BX bb nwb xb
  nn : ¬ BX bb nwb nb
  fn : ¬ BX bb nwb fb
theorem EnvB.chg {A B : World} {pks : List Pk} {K xb nb fb bb nwb : Nat} {pa : Option Addr} {pc : Nat} (h : EnvB A pks K xb nb fb bb nwb pa pc) (c : Chg (BX bb nwb) A B) : EnvB B pks K xb nb fb bb nwb pa pc :=
  ⟨cell_chg c h.x0 h.xn, cell_chg c h.n0 h.nn, cell_chg c h.f0 h.fn, h.pk.chg c, h.xn, h.nn, h.fn⟩
structure StB (w : World) (bb nwb : Nat) (now : List Int) (b : Bst) : Prop where
  nw : ArrI w nwb now
  o : ∃ oa oc, w.cell? ⟨bb, 0, none⟩ = some (.slice oa b.order.length oc) ∧ CellsI w oa b.order ∧ ∀ b' o', oa = some ⟨b', o', none⟩ → ¬ BX bb nwb b'
  p : w.cell? ⟨bb, 1, none⟩ = some (.int .i64 b.price)
  s : w.cell? ⟨bb, 2, none⟩ = some (.int .i64 b.size)
  f : w.cell? ⟨bb, 3, none⟩ = some (.bool b.found)
  z0 : w.frozen? ⟨bb, 0, none⟩ = false
  z1 : w.frozen? ⟨bb, 1, none⟩ = false
  z2 : w.frozen? ⟨bb, 2, none⟩ = false
  z3 : w.frozen? ⟨bb, 3, none⟩ = false
  ne : bb ≠ nwb
  nl : nwb < w.heap.size
theorem StB.ext {A B : World} {bb nwb : Nat} {now : List Int} {b : Bst} (h : StB A bb nwb now b) (x : Ext A B) : StB B bb nwb now b := by
  obtain ⟨oa, oc, o1, o2, o3⟩ := h.o
  exact ⟨h.nw.same (Below.block x nwb h.nl), ⟨oa, oc, x.cell o1, o2.ext x, o3⟩, x.cell h.p, x.cell h.s, x.cell h.f,
    (Below.frozen (p := ⟨bb, 0, none⟩) x (cell_lt o1)).trans h.z0, (Below.frozen (p := ⟨bb, 1, none⟩) x (cell_lt h.p)).trans h.z1, (Below.frozen (p := ⟨bb, 2, none⟩) x (cell_lt h.s)).trans h.z2, (Below.frozen (p := ⟨bb, 3, none⟩) x (cell_lt h.f)).trans h.z3, h.ne, x.size_lt h.nl⟩
theorem buyS_stop {pks : List Pk} {f : Nat} {need : List Int} {price size : Int} {s r : List Int × Bst} (h : stopS need price size f s = some r) : buyS pks f need price size s = r := by
  cases f <;> (unfold buyS; rw [h]; rfl)
theorem buyS_zero {pks : List Pk} {need : List Int} {price size : Int} {s : List Int × Bst} (h : stopS need price size 0 s = none) : buyS pks 0 need price size s = s := by unfold buyS; rw [h]; rfl
theorem buyS_succ {pks : List Pk} {f : Nat} {need : List Int} {price size : Int} {s : List Int × Bst} (h : stopS need price size (f + 1) s = none) : buyS pks (f + 1) need price size s =
    iterS (fun n t => buyS pks f (leftS need (pks.getD (pks.length - (f + 1)) pk0).parts n) (price + n * (pks.getD (pks.length - (f + 1)) pk0).price) (size + n) (t.1.set (pks.length - (f + 1)) n, t.2)) s (usefulS (pks.getD (pks.length - (f + 1)) pk0) need + 1).toNat := by
  conv => lhs; unfold buyS
  rw [h]; rfl
end Go.Proofs.YtmndcdjcodfchaaGreatDoor
namespace Go.Proofs.YtmndcdjcodfchaaGreatDoor
open Go.RowKit
set_option maxHeartbeats 2000000 in
theorem useful_any (p : Pk) (need : List Int) (K : Nat) (ai na : Option Addr) (ci nc : Nat) (w : World) (hK : p.parts.length = K) (hn : need.length = K) (hk : K ≤ 16) (hp : ∀ x ∈ p.parts, 0 ≤ x ∧ x ≤ 1048576) (hb : ∀ k, k < K → -1000000000 ≤ need.getD k 0 ∧ need.getD k 0 ≤ 20) (hc : CellsI w ai p.parts) (hd : CellsI w na need) :
    Calls Tryz.prog 46 #[.agg #[.slice ai K ci, .int .i64 p.price, .int .i64 p.most], .slice na K nc] w fun e w' => e = .returned (.int .i64 (usefulS p need)) ∧ Ext w w' := by
  have HC := Lib.hid hc
  have HD := Lib.hid hd
  have HP := Lib.hid hp
  have HB := Lib.hid hb
  have HK := Lib.hid hK
  have HN := Lib.hid hn
  have HU : Hid (∀ k, k ≤ K → 0 ≤ useK p need k ∧ useK p need k ≤ 20) := fun k hk2 => useK_bd (K := K) hp (fun j hj => (hb j hj).2) k hk2 (by omega)
  have HV : Hid (usefulS p need = min (useK p need K) p.most) := by show _ = _; unfold usefulS; rw [hK]
  have E0 : Ext w (w.alloc (.cells #[.slice ai K ci, .int .i64 p.price, .int .i64 p.most] 62)) := (Ext.refl _).alloc _
  have a1 : (w.alloc (.cells #[.slice ai K ci, .int .i64 p.price, .int .i64 p.most] 62)).cell? ⟨w.heap.size, 0, none⟩ = some (.slice ai K ci) := by go_simp
  have a2 : (w.alloc (.cells #[.slice ai K ci, .int .i64 p.price, .int .i64 p.most] 62)).cell? ⟨w.heap.size, 2, none⟩ = some (.int .i64 p.most) := by go_simp
  clear hc hd hp hb hK hn
  go_enter Tryz.func46, Tryz.ntmps46
  go_wp2
  generalize w.alloc (.cells #[.slice ai K ci, .int .i64 p.price, .int .i64 p.most] 62) = W at E0 a1 a2 ⊢
  go_loopw [5, 11] (fun m i wr => ∃ k : Nat, k ≤ K ∧ i = .int .i64 k ∧ m = .int .i64 (useK p need k) ∧ Ext W wr) (fun _ i _ => K - (intOf i).toNat)
  case atStart => exact ⟨0, Nat.zero_le _, rfl, rfl, Ext.refl _⟩
  case round =>
    obtain ⟨k, hkk, rfl, rfl, he⟩ := hrel
    have hu := HU.out k hkk
    by_cases hlt : k < K
    · have hlt' : (k : Int) < (K : Int) := by omega
      obtain ⟨b1, o1, rfl, c1⟩ := HC.out.ext (E0.trans he) k (by rw [HK.out]; exact hlt)
      obtain ⟨b2, o2, rfl, c2⟩ := HD.out.ext (E0.trans he) k (by rw [HN.out]; exact hlt)
      have hy : 0 ≤ p.parts.getD k 0 ∧ p.parts.getD k 0 ≤ 1048576 := HP.out _ (by have h := HK.out; rw [List.getD_eq_getElem?_getD, List.getElem?_eq_getElem (show k < p.parts.length by omega)]; simp)
      have hx := HB.out k hlt
      have hu1 := HU.out (k + 1) (by omega)
      have hst : useK p need (k + 1) = if 0 < p.parts.getD k 0 ∧ 0 < need.getD k 0 then max (useK p need k) ((need.getD k 0 + p.parts.getD k 0 - 1).tdiv (p.parts.getD k 0)) else useK p need k := rfl
      rw [hst] at hu1
      generalize p.parts.getD k 0 = y at c1 hy hst hu1
      generalize need.getD k 0 = x at c2 hx hst hu1
      generalize useK p need k = m at hu hst hu1 ⊢
      have z1 := cell_lt c1
      have z2 := cell_lt c2
      dsimp only at z1 z2
      by_cases h1 : 0 < y
      · by_cases h2 : 0 < x
        · rw [if_pos ⟨h1, h2⟩] at hst hu1
          have q1 : IntKind.i64.wrap (x + y) = x + y := IntWalk.i64_in _ (by omega)
          have q2 : IntKind.i64.wrap (x + y - 1) = x + y - 1 := IntWalk.i64_in _ (by omega)
          have q3 : (y == 0) = false := by simp; omega
          have q4 : ¬ y = 0 := by omega
          have hdv : 0 ≤ (x + y - 1).tdiv y ∧ (x + y - 1).tdiv y ≤ 20 := by
            refine ⟨?_, by omega⟩
            rw [Int.tdiv_eq_ediv_of_nonneg (by omega)]
            exact Int.ediv_nonneg (by omega) (by omega)
          have q6 : (x + y - 1).tdiv y = (x + y - 1) / y := Int.tdiv_eq_ediv_of_nonneg (by omega)
          generalize hd : (x + y - 1).tdiv y = d at hst hdv q6
          have q5 : IntKind.i64.wrap d = d := IntWalk.i64_in _ (by omega)
          have HST := Lib.hid hst
          have q7 := q6.symm
          clear hst hu1 q6
          go_wp2
          all_goals refine ⟨⟨k + 1, by omega, by go_num, ?_, he⟩, by simp [intOf]; omega⟩
          all_goals (first | (rw [HST.out]; done) | (rw [HST.out]; congr 1; omega))
        · rw [if_neg (fun h => h2 h.2)] at hst
          have HST := Lib.hid hst
          clear hst hu1
          go_wp2
          exact ⟨⟨k + 1, by omega, by go_num, by rw [HST.out], he⟩, by simp [intOf]; omega⟩
      · rw [if_neg (fun h => h1 h.1)] at hst
        have HST := Lib.hid hst
        clear hst hu1
        go_wp2
        exact ⟨⟨k + 1, by omega, by go_num, by rw [HST.out], he⟩, by simp [intOf]; omega⟩
    · have hke : k = K := by omega
      subst hke
      have a1 := he.cell a1
      have a2 := he.cell a2
      have hlt' : ¬ (k : Int) < (k : Int) := by omega
      generalize useK p need k = m at hu HV ⊢
      go_wp2
      all_goals go_ret
      all_goals exact ⟨ret_int (by rw [HV.out]; omega), E0.trans he⟩
end Go.Proofs.YtmndcdjcodfchaaGreatDoor
namespace Go.Proofs.YtmndcdjcodfchaaGreatDoor
open Go.RowKit
theorem StB.put {w : World} {bb nwb : Nat} {now : List Int} {b : Bst} (h : StB w bb nwb now b) (ord : List Int) (price size : Int) (ob c : Nat) (ho : ArrI w ob ord) (hx : ¬ BX bb nwb ob) :
    StB ((((w.setCell ⟨bb, 0, none⟩ (.slice (some ⟨ob, 0, none⟩) ord.length c)).setCell ⟨bb, 1, none⟩ (.int .i64 price)).setCell ⟨bb, 2, none⟩ (.int .i64 size)).setCell ⟨bb, 3, none⟩ (.bool true)) bb nwb now ⟨ord, price, size, true⟩ ∧
    Chg (BX bb nwb) w ((((w.setCell ⟨bb, 0, none⟩ (.slice (some ⟨ob, 0, none⟩) ord.length c)).setCell ⟨bb, 1, none⟩ (.int .i64 price)).setCell ⟨bb, 2, none⟩ (.int .i64 size)).setCell ⟨bb, 3, none⟩ (.bool true)) := by
  obtain ⟨oa, oc, o1, _, _⟩ := h.o
  have s1 : w.cell? ⟨bb, 1, none⟩ = some (.int .i64 b.price) := h.p
  have s2 := h.s
  have s3 := h.f
  have c1 : Chg (fun k => k = bb) w ((((w.setCell ⟨bb, 0, none⟩ (.slice (some ⟨ob, 0, none⟩) ord.length c)).setCell ⟨bb, 1, none⟩ (.int .i64 price)).setCell ⟨bb, 2, none⟩ (.int .i64 size)).setCell ⟨bb, 3, none⟩ (.bool true)) :=
    (((Chg.setCell (B := fun k => k = bb) ⟨bb, 0, none⟩ _ rfl).trans (Chg.setCell (B := fun k => k = bb) ⟨bb, 1, none⟩ _ rfl)).trans (Chg.setCell (B := fun k => k = bb) ⟨bb, 2, none⟩ _ rfl)).trans (Chg.setCell (B := fun k => k = bb) ⟨bb, 3, none⟩ _ rfl)
  have hob : ob ≠ bb := fun e => hx (.inl e)
  refine ⟨⟨h.nw.same (c1.2 nwb h.nl (fun e => h.ne e.symm)), ⟨some ⟨ob, 0, none⟩, c, ?_, ?_, fun b' o' e => (by cases e; exact hx)⟩, ?_, ?_, ?_, ?_, ?_, ?_, ?_, h.ne, Nat.lt_of_lt_of_le h.nl c1.1⟩, ⟨c1.1, fun k hk hn => c1.2 k hk (fun e => hn (.inl e))⟩⟩
  · go_simp
  · exact ArrI.cells (fun j hj => by
      obtain ⟨a1, a2⟩ := ho j hj
      exact ⟨(World.cell?_of_block (w := w) (a := ⟨ob, j, none⟩) (c1.2 ob (cell_lt a1) hob)).trans a1, (World.frozen?_of_block (w := w) (a := ⟨ob, j, none⟩) (c1.2 ob (cell_lt a1) hob)).trans a2⟩)
  · go_simp
  · go_simp
  · go_simp
  · simp only [World.frozen?_setCell]; exact h.z0
  · simp only [World.frozen?_setCell]; exact h.z1
  · simp only [World.frozen?_setCell]; exact h.z2
  · simp only [World.frozen?_setCell]; exact h.z3
theorem set_below (b : Nat) : ∀ (vs : List Value) (o : Nat) (w : World), Below b w (w.setCells b o vs) ∧ Chg (fun k => k = b) w (w.setCells b o vs) := by
  intro vs
  induction vs with
  | nil => intro o w; exact ⟨Below.refl _ _, Chg.refl _ _⟩
  | cons v r ih =>
    intro o w
    obtain ⟨h1, h2⟩ := ih (o + 1) (w.setCell ⟨b, o, none⟩ v)
    exact ⟨Below.trans ((Below.refl _ _).setCell (p := ⟨b, o, none⟩) (Nat.le_refl _) _) h1, (Chg.setCell (B := fun k => k = b) ⟨b, o, none⟩ v rfl).trans h2⟩
theorem CellsI.take {w : World} {a : Option Addr} {l : List Int} (h : CellsI w a l) (k : Nat) : CellsI w a (l.take k) := fun i hi => by
  rw [List.length_take] at hi
  obtain ⟨b, off, h1, h2⟩ := h i (by omega)
  exact ⟨b, off, h1, by rw [h2, List.getD_eq_getElem?_getD, List.getD_eq_getElem?_getD, List.getElem?_take_of_lt (by omega)]⟩
theorem ext_getD2 {l m : List Int} (h : l.length = m.length) (k : ∀ i, i < l.length → l.getD i 0 = m.getD i 0) : l = m := by
  refine List.ext_getElem h fun i h1 h2 => ?_
  have := k i h1
  simpa [List.getD, h1, h2] using this
theorem getD_set2 (l : List Int) (i : Nat) (x : Int) (j : Nat) (hi : i < l.length) : (l.set i x).getD j 0 = if j = i then x else l.getD j 0 := by
  rw [List.getD_eq_getElem?_getD, List.getElem?_set]
  by_cases e : i = j
  · subst e; simp [hi]
  · rw [if_neg e, if_neg (fun h => e h.symm), List.getD_eq_getElem?_getD]
theorem leftJ_set {need parts : List Int} {n : Int} {j : Nat} (hj : j < need.length) : (leftJ need parts n j).set j (need.getD j 0 - n * parts.getD j 0) = leftJ need parts n (j + 1) := by
  refine ext_getD2 (by rw [List.length_set, leftJ_len, leftJ_len]) fun k hk => ?_
  rw [List.length_set, leftJ_len] at hk
  rw [getD_set2 _ _ _ _ (by rw [leftJ_len]; exact hj), leftJ_get _ _ _ _ hk, leftJ_get _ _ _ _ hk]
  by_cases e : k = j
  · subst e
    rw [if_pos rfl, if_pos (by omega)]
  · rw [if_neg e]
    by_cases h : k < j
    · rw [if_pos h, if_pos (by omega)]
    · rw [if_neg h, if_neg (by omega)]
theorem leftJ_zero (need parts : List Int) (n : Int) : leftJ need parts n 0 = need := by
  refine ext_getD2 (by rw [leftJ_len]) fun k hk => ?_
  rw [leftJ_len] at hk
  rw [leftJ_get _ _ _ _ hk, if_neg (by omega)]
theorem StB.now {w : World} {bb nwb : Nat} {now : List Int} {b : Bst} (h : StB w bb nwb now b) {i : Nat} (hi : i < now.length) (x : Int) : StB (w.setCell ⟨nwb, i, none⟩ (.int .i64 x)) bb nwb (now.set i x) b ∧ Chg (BX bb nwb) w (w.setCell ⟨nwb, i, none⟩ (.int .i64 x)) := by
  have c : Chg (fun k => k = nwb) w (w.setCell ⟨nwb, i, none⟩ (.int .i64 x)) := Chg.setCell (B := fun k => k = nwb) ⟨nwb, i, none⟩ _ rfl
  obtain ⟨oa, oc, o1, o2, o3⟩ := h.o
  have hb := c.2 bb (cell_lt h.p) h.ne
  refine ⟨⟨h.nw.set hi x, ⟨oa, oc, cell_chg c o1 h.ne, o2.chg2 c (fun b' o' e e2 => o3 b' o' e (.inr e2)), o3⟩, cell_chg c h.p h.ne, cell_chg c h.s h.ne, cell_chg c h.f h.ne, ?_, ?_, ?_, ?_, h.ne, Nat.lt_of_lt_of_le h.nl c.1⟩, ⟨c.1, fun k hk hn => c.2 k hk (fun e => hn (.inr e))⟩⟩
  · rw [World.frozen?_setCell]; exact h.z0
  · rw [World.frozen?_setCell]; exact h.z1
  · rw [World.frozen?_setCell]; exact h.z2
  · rw [World.frozen?_setCell]; exact h.z3
set_option maxHeartbeats 8000000 in
set_option maxRecDepth 100000 in
theorem buy_any {pks : List Pk} {K xb nb fb bb nwb : Nat} {pa : Option Addr} {pc : Nat} (ht : TaskOk pks K) (m0 : Nat) (hm1 : m0 ≤ bb) (hm2 : m0 ≤ nwb) : ∀ (f i : Nat), i + f = pks.length → ∀ (need : List Int) (price size : Int) (na : Option Addr) (nc : Nat) (now : List Int) (b : Bst) (w : World),
    NeedOk need price size K i → now.length = pks.length → EnvB w pks K xb nb fb bb nwb pa pc → StB w bb nwb now b → CellsI w na need → (∀ b' o', na = some ⟨b', o', none⟩ → ¬ BX bb nwb b') →
    Calls Tryz.prog 42 #[.int .i64 i, .slice na K nc, .int .i64 price, .int .i64 size, .pointer (some ⟨bb, 0, none⟩), .pointer (some ⟨nb, 0, none⟩), .pointer (some ⟨xb, 0, none⟩), .pointer (some ⟨fb, 0, none⟩)] w fun e w' =>
      e = .returned (.tuple #[]) ∧ StB w' bb nwb (buyS pks f need price size (now, b)).1 (buyS pks f need price size (now, b)).2 ∧ Chg (BX bb nwb) w w' ∧ Below m0 w w' := by
  intro f
  induction f using Nat.strongRecOn with
  | ind f ih =>
    intro i hif need price size na nc now b w hno hnl he hs hc hna
    have IH : Hid _ := ih
    have HT := Lib.hid ht
    have HNO := Lib.hid hno
    have HNL := Lib.hid hnl
    have HE := Lib.hid he
    have HS := Lib.hid hs
    have HC := Lib.hid hc
    have HNA := Lib.hid hna
    obtain ⟨N, hN⟩ : ∃ N, N = pks.length := ⟨_, rfl⟩
    have HN := Lib.hid hN
    rw [← hN] at hif
    have hN5 : N ≤ 5 := by rw [hN]; exact ht.len
    have hK16 := ht.kinds
    have hm0 : m0 ≤ w.heap.size := by have := cell_lt hs.p; dsimp only at this; omega
    clear ih hno hnl he hs hc hna hN ht
    go_enter Tryz.func42, Tryz.ntmps42
    go_wp2_with fail
    refine (better_any bb b.found b.price b.size price size _ HS.out.p HS.out.s HS.out.f).mono ?_
    rintro e w1 ⟨rfl, hE⟩
    have HS1 := Lib.hid (HS.out.ext hE)
    have HE1 := Lib.hid (HE.out.chg (Chg.ext hE))
    have HC1 := Lib.hid (HC.out.ext hE)
    have HX1 := Lib.hid hE
    clear hE HS HE HC
    cases hbt : betterS b.found b.price b.size price size
    · have HR : Hid (buyS pks f need price size (now, b) = (now, b)) := buyS_stop (by unfold stopS; rw [if_pos hbt])
      go_wp2
      (try simp only [Exit.inBlock, Exit.then])
      refine bodyPost_ret (results_none rfl _ _ _) rfl ⟨rfl, ?_, Chg.ext HX1.out, HX1.out.mono hm0⟩
      rw [HR.out]; exact HS1.out
    · have HBT := Lib.hid hbt
      clear hbt
      go_wp2_with fail
      refine (ContainsPos_any need K na nc _ HNO.out.len.symm (by unfold maxLen; omega) HC1.out).mono ?_
      rintro e w2 ⟨rfl, hE⟩
      have HS2 := Lib.hid (HS1.out.ext hE)
      have HE2 := Lib.hid (HE1.out.chg (Chg.ext hE))
      have HC2 := Lib.hid (HC1.out.ext hE)
      have HX2 := Lib.hid (HX1.out.trans hE)
      have n0 : w2.cell? ⟨nb, 0, none⟩ = some (.slice (some ⟨nwb, 0, none⟩) N N) := by have := HE2.out.n0; rwa [← HN.out] at this
      have zn := cell_lt n0
      dsimp only at zn
      clear hE HS1 HE1 HC1 HX1
      cases hap : need.any isPos
      · have HR : Hid (buyS pks f need price size (now, b) = (now, ⟨now.take i ++ List.replicate f 0, price, size, true⟩)) := buyS_stop (by
          unfold stopS
          rw [if_neg (by rw [HBT.out]; simp), if_pos hap]
          dsimp only
          rw [HNL.out, ← HN.out, show N - f = i by omega])
        clear hap
        obtain ⟨i0, hi, hi0, hi1, hi2⟩ := info_parts infoIn
        go_wp2_with (at_make; refine wpList_make_full _ rfl _ _ 23 rfl 0 3 i0 (.int .i64 0) 1 Tryz.underlying23 hi hi0 hi1 _ _ _ _ N rfl rfl rfl rfl ?b2 ?b3 ?b4 ?hK)
        case b2 => rw [hi2]; omega
        case b3 => unfold maxLen; omega
        case b4 => exact Nat.zero_le _
        case hK =>
          intro w3 hown hgr
          obtain ⟨ob, hob⟩ : ∃ ob, ob = w2.heap.size := ⟨_, rfl⟩
          have E3 : Ext w2 w3 := ⟨hgr.os, hgr.tape, hgr.output, hgr.size, fun k hk => hgr.block k hk (by simp)⟩
          have HA3 : Hid (ArrI w3 ob (List.replicate N 0)) := fun j hj => by
            rw [List.length_replicate] at hj
            rw [hob]
            refine ⟨?_, hown.frozenAt j⟩
            rw [hown.cellAt j (by omega)]
            simp [madeCells, hj, Nat.mod_one, List.getD]
          have hob1 : w2.heap.size ≤ ob := by omega
          have n0 := E3.cell n0
          have HS3 := Lib.hid (HS2.out.ext E3)
          have HX3 := Lib.hid (HX2.out.trans E3)
          have HE3 := Lib.hid E3
          rw [← hob]
          clear hob hown hgr E3 hi hi0 hi1 hi2 i0
          have j1 : (0 : Int) ≤ (i : Int) := Int.natCast_nonneg i
          have j2 : (i : Int) ≤ (N : Int) := by omega
          obtain ⟨W4, hW4⟩ : ∃ W, W = w3.setCells ob 0 (vals (now.take i)) := ⟨_, rfl⟩
          have hti : (now.take i).length = i := by rw [List.length_take, HNL.out, ← HN.out]; omega
          have hcp : ∀ ty, (Builtin.copy_ #[23, 23] ty #[.slice (some ⟨ob, 0, none⟩) N N, .slice (some ⟨nwb, 0, none⟩) i N]).run Tryz.prog w3 = .ok (goInt (i : Nat)) W4 := fun ty => by
            rw [hW4]
            have := run_copyI (P := Tryz.prog) w3 23 3 Tryz.underlying23 sizeIn ob N N (some ⟨nwb, 0, none⟩) i N (now.take i) (by rw [hti]; show i = min i N; omega) ((HS3.out.nw.cells).take i) (fun j hj => by rw [(HA3.out j (by rw [List.length_replicate]; omega)).1]; rfl) (fun j hj => (HA3.out j (by rw [List.length_replicate]; omega)).2) ty
            rw [hti] at this
            exact this
          have hA4 := HA3.out.lay (cs := now.take i) (by rw [hti, List.length_replicate]; omega)
          have he4 : now.take i ++ (List.replicate N (0 : Int)).drop (now.take i).length = now.take i ++ List.replicate f 0 := by rw [hti, List.drop_replicate, show N - i = f by omega]
          rw [he4] at hA4
          rw [← hW4] at hA4
          have E4 : Ext w2 W4 := by
            rw [hW4]
            exact Below.trans HE3.out ((set_below ob _ _ _).1.mono hob1)
          have hol : (now.take i ++ List.replicate f (0 : Int)).length = N := by rw [List.length_append, hti, List.length_replicate]; omega
          have HS4 := Lib.hid (HS2.out.ext E4)
          have HX4 := Lib.hid (HX2.out.trans E4)
          have HA4 := Lib.hid hA4
          have HOL := Lib.hid hol
          have hxo : ¬ BX bb nwb ob := fun h => by
            have h1 := cell_lt HS2.out.p
            have h2 := HS2.out.nl
            dsimp only at h1
            rcases h with h | h <;> omega
          have HXO := Lib.hid hxo
          clear hW4 hti hA4 he4 E4 hol hxo HS3 HX3 HE3 HA3 HS2 HX2
          generalize now.take i ++ List.replicate f (0 : Int) = ord at HA4 HOL HR
          obtain ⟨oa, oc, k0, _, _⟩ := HS4.out.o
          have k1 := HS4.out.p
          have k2 := HS4.out.s
          have k3 := HS4.out.f
          have f0 := HS4.out.z0
          have f1 := HS4.out.z1
          have f2 := HS4.out.z2
          have f3 := HS4.out.z3
          go_wp2
          (try simp only [Exit.inBlock, Exit.then])
          obtain ⟨p1, p2⟩ := HS4.out.put ord price size ob N HA4.out HXO.out
          rw [HOL.out] at p1 p2
          refine bodyPost_ret (results_none rfl _ _ _) rfl ⟨rfl, ?_, (Chg.ext HX4.out).trans p2, ?_⟩
          · rw [HR.out]; exact p1
          · exact Below.setCell (p := ⟨bb, 3, none⟩) (Below.setCell (p := ⟨bb, 2, none⟩) (Below.setCell (p := ⟨bb, 1, none⟩) (Below.setCell (p := ⟨bb, 0, none⟩) (HX4.out.mono hm0) hm1 _) hm1 _) hm1 _) hm1 _
      · have HST : Hid (stopS need price size f (now, b) = none) := by
          show _ = _
          unfold stopS
          rw [if_neg (by rw [HBT.out]; simp), if_neg (by rw [hap]; simp)]
        clear hap
        cases f with
        | zero =>
          have hiN : (i : Int) = (N : Int) := by omega
          have hiN2 : ((i : Int) == (N : Int)) = true := by simp [hiN]
          have HR : Hid (buyS pks 0 need price size (now, b) = (now, b)) := buyS_zero HST.out
          go_wp2
          (try simp only [Exit.inBlock, Exit.then])
          refine bodyPost_ret (results_none rfl _ _ _) rfl ⟨rfl, ?_, Chg.ext HX2.out, HX2.out.mono hm0⟩
          rw [HR.out]; exact HS2.out
        | succ f =>
          have hiN : ¬ (i : Int) = (N : Int) := by omega
          have hiN2 : ((i : Int) == (N : Int)) = false := by simp [hiN]
          have hi' : i < pks.length := by rw [← HN.out]; omega
          have hidx : pks.length - (f + 1) = i := by rw [← HN.out]; omega
          have HR : Hid (buyS pks (f + 1) need price size (now, b) = iterS (fun n t => buyS pks f (leftS need (pks.getD i pk0).parts n) (price + n * (pks.getD i pk0).price) (size + n) (t.1.set i n, t.2)) (now, b) (usefulS (pks.getD i pk0) need + 1).toNat) := by
            have := buyS_succ (pks := pks) HST.out
            rw [hidx] at this
            exact this
          have hmem : pks.getD i pk0 ∈ pks := by rw [List.getD_eq_getElem?_getD, List.getElem?_eq_getElem hi']; simp
          obtain ⟨kb, koff, ai, ci, rfl, c1, c2, c3, c4, c5, c6⟩ := HE2.out.pk i hi'
          generalize pks.getD i pk0 = p at HR hmem c2 c3 c4
          have HMEM := Lib.hid hmem
          have HAI := Lib.hid c4
          have HAN := Lib.hid c6
          have hub := usefulS_bd HT.out hmem HNO.out
          have j0 : (0 : Int) ≤ (i : Int) := Int.natCast_nonneg i
          have j1 : (i : Int) < (N : Int) := by omega
          have x0 : w2.cell? ⟨xb, 0, none⟩ = some (.slice (some ⟨kb, koff, none⟩) N pc) := by have := HE2.out.x0; rwa [← HN.out] at this
          have zk := cell_lt c1
          have zx := cell_lt x0
          dsimp only at zk zx
          have hbw : bb < w2.heap.size ∧ nwb < w2.heap.size := ⟨cell_lt HS2.out.p, HS2.out.nl⟩
          have HBW := Lib.hid hbw
          clear hmem c4 c5 c6 hidx hi' hbw
          go_wp2_with fail
          have E3 : Ext w2 (w2.alloc (.cells #[.slice ai K ci, .int .i64 p.price, .int .i64 p.most] 62)) := (Ext.refl _).alloc _
          have y1 : (w2.alloc (.cells #[.slice ai K ci, .int .i64 p.price, .int .i64 p.most] 62)).cell? ⟨w2.heap.size, 0, none⟩ = some (.slice ai K ci) := by go_simp
          have y2 : (w2.alloc (.cells #[.slice ai K ci, .int .i64 p.price, .int .i64 p.most] 62)).cell? ⟨w2.heap.size, 1, none⟩ = some (.int .i64 p.price) := by go_simp
          have hno16 := HNO.out
          refine (useful_any p need K ai na ci nc _ (HT.out.parts p HMEM.out) HNO.out.len hK16 (HT.out.num p HMEM.out) (fun k hk => ⟨by have := (HNO.out.num k hk).1; omega, (HNO.out.num k hk).2⟩) (HAI.out.ext E3) (HC2.out.ext E3)).mono ?_
          rintro e w4 ⟨rfl, hE⟩
          have E4 := E3.trans hE
          have d1 := hE.cell y1
          have d2 := hE.cell y2
          have HS4 := Lib.hid (HS2.out.ext E4)
          have HE4 := Lib.hid (HE2.out.chg (Chg.ext E4))
          have HC4 := Lib.hid (HC2.out.ext E4)
          have HAI4 := Lib.hid (HAI.out.ext E4)
          have HX4 := Lib.hid (HX2.out.trans E4)
          have HP3 : Hid (¬ BX bb nwb w2.heap.size) := fun h => by have := HBW.out; rcases h with h | h <;> omega
          obtain ⟨pb, hpb⟩ : ∃ pb, pb = w2.heap.size := ⟨_, rfl⟩
          have HZ4 : Hid (bb < w4.heap.size ∧ nwb < w4.heap.size) := by have := HBW.out; have := E4.size; exact ⟨by omega, by omega⟩
          rw [← hpb] at d1 d2 HP3 ⊢
          clear hpb E3 E4 hE n0 zn c1 c2 c3 x0 zk zx HS2 HE2 HC2 HX2 HAI HBW hno16
          generalize hu : usefulS p need = u at hub HR ⊢
          obtain ⟨U, hU⟩ : ∃ U : Nat, (u + 1).toNat = U := ⟨_, rfl⟩
          rw [hU] at HR
          have huU : u + 1 = (U : Int) := by omega
          have q1 : IntKind.i64.wrap (u + 1) = (U : Int) := by rw [IntWalk.i64_in _ (by omega)]; exact huU
          have hU21 : U ≤ 21 := by omega
          clear hu hU huU hub
          obtain ⟨step, hstep⟩ : ∃ step : Nat → List Int × Bst → List Int × Bst, step = fun (n : Nat) (t : List Int × Bst) => buyS pks f (leftS need p.parts n) (price + n * p.price) (size + n) (t.1.set i n, t.2) := ⟨_, rfl⟩
          have HSTEP : Hid (∀ (n : Nat) (t : List Int × Bst), step n t = buyS pks f (leftS need p.parts n) (price + n * p.price) (size + n) (t.1.set i n, t.2)) := by rw [hstep]; exact fun _ _ => rfl
          rw [← hstep] at HR
          clear hstep
          go_wp2
          go_loopw [50] (fun t wr => ∃ n : Nat, n ≤ U ∧ t = .int .i64 n ∧ Hid (StB wr bb nwb (iterS step (now, b) n).1 (iterS step (now, b) n).2 ∧ (iterS step (now, b) n).1.length = N) ∧ Hid (Chg (BX bb nwb) w4 wr) ∧ Hid (Below m0 w4 wr)) (fun t _ => U - (intOf t).toNat)
          case atStart => exact ⟨0, Nat.zero_le _, rfl, ⟨HS4.out, by rw [HN.out]; exact HNL.out⟩, Chg.refl _ _, Below.refl _ _⟩
          case round =>
            obtain ⟨n, hnU, rfl, hst, hch, hbe⟩ := hrel
            by_cases hlt : n < U
            · have hlt' : (n : Int) < (U : Int) := by omega
              have HNX : Hid (iterS step (now, b) (n + 1) = buyS pks f (leftS need p.parts n) (price + n * p.price) (size + n) ((iterS step (now, b) n).1.set i n, (iterS step (now, b) n).2)) := HSTEP.out n _
              generalize iterS step (now, b) n = st at hst HNX
              generalize wr = V at hst hch hbe ⊢
              have HEV := Lib.hid (HE4.out.chg hch.out)
              have HCV := Lib.hid (HC4.out.chg2 hch.out HNA.out)
              have HAV := Lib.hid (HAI4.out.chg2 hch.out HAN.out)
              have d1 := cell_chg hch.out d1 HP3.out
              have d2 := cell_chg hch.out d2 HP3.out
              have HVZ : Hid (bb < V.heap.size ∧ nwb < V.heap.size ∧ m0 ≤ V.heap.size) := by have := HZ4.out; have := hch.out.1; exact ⟨by omega, by omega, by omega⟩
              obtain ⟨i0, hi, hi0, hi1, hi2⟩ := info_parts infoIn
              have hnn : (n : Int) ≤ 20 := by omega
              go_wp2_with (at_make; refine wpList_make_full _ rfl _ _ 23 rfl 0 3 i0 (.int .i64 0) 1 Tryz.underlying23 hi hi0 hi1 _ _ _ _ K rfl rfl rfl rfl ?b2 ?b3 ?b4 ?hK)
              case b2 => rw [hi2]; omega
              case b3 => unfold maxLen; omega
              case b4 => exact Nat.zero_le _
              case hK =>
                intro w5 hown hgr
                obtain ⟨lb, hlb⟩ : ∃ lb, lb = V.heap.size := ⟨_, rfl⟩
                have E5 : Ext V w5 := ⟨hgr.os, hgr.tape, hgr.output, hgr.size, fun k hk => hgr.block k hk (by simp)⟩
                have HA5 : Hid (ArrI w5 lb (List.replicate K 0)) := fun j hj => by
                  rw [List.length_replicate] at hj
                  rw [hlb]
                  refine ⟨?_, hown.frozenAt j⟩
                  rw [hown.cellAt j (by omega)]
                  simp [madeCells, hj, Nat.mod_one, List.getD]
                have HE5 := Lib.hid E5
                have HCW := Lib.hid (HCV.out.ext E5)
                have HLB := Lib.hid hlb
                rw [← hlb]
                clear hlb hown hgr E5 hi hi0 hi1 hi2 i0
                obtain ⟨W6, hW6⟩ : ∃ W, W = w5.setCells lb 0 (vals need) := ⟨_, rfl⟩
                have hcp : ∀ ty, (Builtin.copy_ #[23, 23] ty #[.slice (some ⟨lb, 0, none⟩) K K, .slice na K nc]).run Tryz.prog w5 = .ok (goInt (K : Nat)) W6 := fun ty => by
                  rw [hW6]
                  have := run_copyI (P := Tryz.prog) w5 23 3 Tryz.underlying23 sizeIn lb K K na K nc need (by rw [HNO.out.len]; exact (Nat.min_self K).symm) HCW.out (fun j hj => by rw [(HA5.out j (by rw [List.length_replicate, ← HNO.out.len]; exact hj)).1]; rfl) (fun j hj => (HA5.out j (by rw [List.length_replicate, ← HNO.out.len]; exact hj)).2) ty
                  rw [HNO.out.len] at this
                  exact this
                have hA6 := HA5.out.lay (cs := need) (by rw [List.length_replicate, HNO.out.len]; exact Nat.le_refl _)
                rw [HNO.out.len, List.drop_replicate, Nat.sub_self, List.replicate_zero, List.append_nil] at hA6
                rw [← hW6] at hA6
                have E6 : Ext V W6 := by
                  rw [hW6]
                  exact Below.trans HE5.out ((set_below lb _ _ _).1.mono (by rw [HLB.out]; exact Nat.le_refl _))
                have HA6 : Hid (ArrI W6 lb (leftJ need p.parts n 0)) := by rw [leftJ_zero]; exact hA6
                have HE6 := Lib.hid E6
                have HAV6 := Lib.hid (HAV.out.ext E6)
                have d1' := E6.cell d1
                clear hW6 hA6 E6 HE5 HCW HA5
                have zd := cell_lt d1'
                dsimp only at zd
                go_wp2
                go_loopw [62] (fun t wz => ∃ j : Nat, j ≤ K ∧ t = .int .i64 j ∧ Hid (ArrI wz lb (leftJ need p.parts n j)) ∧ Hid (Ext V wz)) (fun t _ => K - (intOf t).toNat)
                case atStart => exact ⟨0, Nat.zero_le _, rfl, HA6.out, HE6.out⟩
                case round =>
                  obtain ⟨j, hj, rfl, ha, hx⟩ := hrel
                  by_cases hjl : j < K
                  · have hjl' : (j : Int) < (K : Int) := by omega
                    have hjn : j < need.length := by rw [HNO.out.len]; exact hjl
                    obtain ⟨e1, e2⟩ := ha.out j (by rw [leftJ_len]; exact hjn)
                    rw [leftJ_get _ _ _ _ hjn, if_neg (Nat.lt_irrefl j)] at e1
                    obtain ⟨b1, o1, hai, c1⟩ := (HAV.out.ext hx.out) j (by rw [HT.out.parts p HMEM.out]; exact hjl)
                    subst hai
                    have hls := leftJ_set (need := need) (parts := p.parts) (n := n) hjn
                    have hxb := HNO.out.num j hjl
                    have hyb : 0 ≤ p.parts.getD j 0 ∧ p.parts.getD j 0 ≤ 1048576 := HT.out.num p HMEM.out _ (by have h := HT.out.parts p HMEM.out; rw [List.getD_eq_getElem?_getD, List.getElem?_eq_getElem (show j < p.parts.length by omega)]; simp)
                    have hny : 0 ≤ (n : Int) * p.parts.getD j 0 ∧ (n : Int) * p.parts.getD j 0 ≤ 20 * 1048576 := ⟨Int.mul_nonneg (by omega) hyb.1, Int.mul_le_mul hnn hyb.2 hyb.1 (by omega)⟩
                    generalize need.getD j 0 = x at e1 hls hxb
                    generalize p.parts.getD j 0 = y at c1 hls hyb hny
                    have HLS := Lib.hid hls
                    have q2 : IntKind.i64.wrap ((n : Int) * y) = (n : Int) * y := IntWalk.i64_in _ (by omega)
                    have q3 : IntKind.i64.wrap (x - (n : Int) * y) = x - (n : Int) * y := IntWalk.i64_in _ (by omega)
                    have z1 := cell_lt c1
                    have z2 := cell_lt e1
                    dsimp only at z1 z2
                    clear hls
                    go_wp2
                    refine ⟨⟨j + 1, by omega, by go_num, ?_, ?_⟩, by simp [intOf]; omega⟩
                    · show ArrI _ _ _
                      rw [← HLS.out]
                      exact ha.out.set (by rw [leftJ_len]; exact hjn) _
                    · exact Below.setCell (p := ⟨lb, _, none⟩) hx.out (by rw [HLB.out]; exact Nat.le_refl _) _
                  · have hjk : j = K := by omega
                    subst hjk
                    have hjl' : ¬ (j : Int) < (j : Int) := by omega
                    have hleft : leftJ need p.parts n j = leftS need p.parts n := by unfold leftS; rw [HNO.out.len]
                    rw [hleft] at ha
                    have HSr := Lib.hid (hst.out.1.ext hx.out)
                    have HEr := Lib.hid (HEV.out.chg (Chg.ext hx.out))
                    have n0 : wr.cell? ⟨nb, 0, none⟩ = some (.slice (some ⟨nwb, 0, none⟩) N N) := by have := HEr.out.n0; rwa [← HN.out] at this
                    obtain ⟨v1, v2⟩ := HSr.out.nw i (by rw [hst.out.2]; omega)
                    have f0 := HEr.out.f0
                    unfold buyV at f0
                    have d2' := hx.out.cell d2
                    have g1 : nb ≠ nwb := fun e => HEr.out.nn (.inr e)
                    have g2 : fb ≠ nwb := fun e => HEr.out.fn (.inr e)
                    have g3 : pb ≠ nwb := fun e => HP3.out (.inr e)
                    have hne := need_next HT.out HMEM.out HNO.out hnn
                    have hpr := HT.out.price p HMEM.out
                    have hpn : 0 ≤ (n : Int) * p.price ∧ (n : Int) * p.price ≤ 20 * 1048576 := ⟨Int.mul_nonneg (by omega) hpr.1, Int.mul_le_mul hnn hpr.2 hpr.1 (by omega)⟩
                    have hp1 := HNO.out.price
                    have hp2 := HNO.out.size
                    have q2 : IntKind.i64.wrap ((n : Int) * p.price) = (n : Int) * p.price := IntWalk.i64_in _ (by omega)
                    have q3 : IntKind.i64.wrap (price + (n : Int) * p.price) = price + (n : Int) * p.price := IntWalk.i64_in _ (by omega)
                    have q4 : IntKind.i64.wrap (size + (n : Int)) = size + (n : Int) := IntWalk.i64_in _ (by omega)
                    have q5 : IntKind.i64.wrap ((i : Int) + 1) = (i : Int) + 1 := IntWalk.i64_in _ (by omega)
                    obtain ⟨HSn, hcn⟩ := HSr.out.now (i := i) (by rw [hst.out.2]; omega) (n : Int)
                    have hlx : ¬ BX bb nwb lb := fun h => by
                      have h1 := HVZ.out
                      have h2 := HLB.out
                      rcases h with h | h <;> omega
                    have hlc : CellsI (wr.setCell ⟨nwb, i, none⟩ (.int .i64 n)) (some ⟨lb, 0, none⟩) (leftS need p.parts n) := (ha.out.cells).chg2 hcn (fun b' o' e => (by cases e; exact hlx))
                    have HCALL : Hid (Calls Tryz.prog 42 #[.int .i64 ((i : Int) + 1), .slice (some ⟨lb, 0, none⟩) j j, .int .i64 (price + n * p.price), .int .i64 (size + n), .pointer (some ⟨bb, 0, none⟩), .pointer (some ⟨nb, 0, none⟩), .pointer (some ⟨xb, 0, none⟩), .pointer (some ⟨fb, 0, none⟩)] (wr.setCell ⟨nwb, i, none⟩ (.int .i64 n)) fun e w' =>
                        e = .returned (.tuple #[]) ∧ StB w' bb nwb (iterS step (now, b) (n + 1)).1 (iterS step (now, b) (n + 1)).2 ∧ Chg (BX bb nwb) (wr.setCell ⟨nwb, i, none⟩ (.int .i64 n)) w' ∧ Below m0 (wr.setCell ⟨nwb, i, none⟩ (.int .i64 n)) w') := by
                      have := IH.out f (Nat.lt_succ_self f) (i + 1) (by rw [← HN.out]; omega) (leftS need p.parts n) (price + n * p.price) (size + n) (some ⟨lb, 0, none⟩) j (st.1.set i n) st.2 (wr.setCell ⟨nwb, i, none⟩ (.int .i64 n)) hne (by rw [List.length_set, hst.out.2, HN.out]) (HEr.out.chg hcn) HSn hlc (fun b' o' e => (by cases e; exact hlx))
                      rw [← HNX.out] at this
                      exact this
                    have HLEN : Hid ((iterS step (now, b) (n + 1)).1.length = N) := by
                      show _ = _
                      rw [HNX.out, buy_len, List.length_set]; exact hst.out.2
                    have HCN := Lib.hid hcn
                    clear hne hpr hpn hp1 hp2 HSn hcn hlx hlc hleft
                    go_wp2_with fail
                    refine HCALL.out.mono ?_
                    rintro e w9 ⟨rfl, k1, k2, k3⟩
                    have K1 := Lib.hid k1
                    have K2 := Lib.hid k2
                    have K3 := Lib.hid k3
                    clear k1 k2 k3
                    go_wp2
                    refine ⟨⟨n + 1, by omega, by go_num, ⟨K1.out, HLEN.out⟩, ((hch.out.trans (Chg.ext hx.out)).trans HCN.out).trans K2.out, ?_⟩, by simp [intOf]; omega⟩
                    exact Below.trans (Below.setCell (p := ⟨nwb, _, none⟩) (Below.trans hbe.out (hx.out.mono HVZ.out.2.2)) hm2 _) K3.out
            · have hnu : n = U := by omega
              subst hnu
              have hlt' : ¬ (n : Int) < (n : Int) := by omega
              go_wp2
              go_end0
              refine ⟨rfl, ?_, (Chg.ext HX4.out).trans hch.out, (HX4.out.mono hm0).trans hbe.out⟩
              rw [HR.out]; exact hst.out.1
end Go.Proofs.YtmndcdjcodfchaaGreatDoor
namespace Go.Proofs.YtmndcdjcodfchaaGreatDoor
open Go.RowKit
theorem cells_two (w : World) (b : Nat) (x y : Int) (h0 : w.cell? ⟨b, 0, none⟩ = some (.int .i64 x)) (h1 : w.cell? ⟨b, 1, none⟩ = some (.int .i64 y)) : CellsI w (some ⟨b, 0, none⟩) [x, y] := fun i hi => by
  rcases i with _ | _ | i
  · exact ⟨b, 0, rfl, h0⟩
  · exact ⟨b, 0, rfl, h1⟩
  · simp only [List.length_cons, List.length_nil] at hi
    omega
theorem parcel_a {K : Nat} {p : Pk} (h : p.parts.length ≠ K) : parcelS K p = 8 := by unfold parcelS; rw [if_pos h]
theorem parcel_b {K : Nat} {p : Pk} (h : p.parts.length = K) (h2 : p.parts.any isNeg = true) : parcelS K p = 2 := by unfold parcelS; rw [if_neg (fun h3 => h3 h), if_pos h2]
theorem parcel_c {K : Nat} {p : Pk} (h : p.parts.length = K) (h2 : p.parts.any isNeg = false) (h3 : [p.price, p.most].any isNeg = true) : parcelS K p = 2 := by
  unfold parcelS; rw [if_neg (fun h3 => h3 h), if_neg (by rw [h2]; simp), if_pos h3]
theorem parcel_d {K : Nat} {p : Pk} (h : p.parts.length = K) (h2 : p.parts.any isNeg = false) (h3 : [p.price, p.most].any isNeg = false) : parcelS K p = 0 := by
  unfold parcelS; rw [if_neg (fun h3 => h3 h), if_neg (by rw [h2]; simp), if_neg (by rw [h3]; simp)]
theorem check_tail {pks : List Pk} {need : List Int} (h0 : need.length ≠ 0) (h1 : ¬ 16 < need.length) (h2 : need.any isNeg = false) (h3 : ¬ 64 < pks.length) : checkS pks need = taskE need.length pks := by
  unfold checkS
  rw [if_neg h0, if_neg h1, if_neg (by rw [h2]; simp), if_neg h3]
set_option maxHeartbeats 4000000 in
theorem Check_any {pks : List Pk} {need : List Int} {pa : Option Addr} {pc : Nat} {na : Option Addr} {nc : Nat} {w : World} (ht : TaskG w pks need pa pc na nc) :
    Calls Tryz.prog 23 #[taskV pks need pa pc na nc] w fun e w' => e = .returned (.int .i64 (checkS pks need)) ∧ Ext w w' := by
  unfold taskV
  obtain ⟨r, hr⟩ : ∃ r, checkS pks need = r := ⟨_, rfl⟩
  rw [hr]
  have HR := Lib.hid hr
  have HP := Lib.hid ht.pk
  have HC := Lib.hid ht.nd
  obtain ⟨N, hN⟩ : ∃ N, N = pks.length := ⟨_, rfl⟩
  obtain ⟨K, hK⟩ : ∃ K, K = need.length := ⟨_, rfl⟩
  have hNm : N ≤ 9223372036854775807 := by have h1 := ht.p1; have h2 := ht.p2; unfold maxLen at h2; omega
  have hKm : K ≤ maxLen := by have h1 := ht.n1; have h2 := ht.n2; omega
  rw [← hN, ← hK]
  have HN := Lib.hid hN
  have HK := Lib.hid hK
  have HKM := Lib.hid hKm
  clear ht hr hN hK hKm
  have E0 : Ext w (w.alloc (.cells #[.slice pa N pc, .slice na K nc] 25)) := (Ext.refl _).alloc _
  have y1 : (w.alloc (.cells #[.slice pa N pc, .slice na K nc] 25)).cell? ⟨w.heap.size, 0, none⟩ = some (.slice pa N pc) := by go_simp
  have y2 : (w.alloc (.cells #[.slice pa N pc, .slice na K nc] 25)).cell? ⟨w.heap.size, 1, none⟩ = some (.slice na K nc) := by go_simp
  go_enter Tryz.func23, Tryz.ntmps23
  by_cases h0 : K = 0
  · have k1 : ((K : Int) == 0) = true := by simp; omega
    have hr : r = 13 := by rw [← HR.out]; unfold checkS; rw [if_pos (by rw [← HK.out]; exact h0)]
    have HR2 := Lib.hid hr
    clear hr
    subst h0
    go_wp2
    go_ret
    exact ⟨ret_int HR2.out.symm, E0⟩
  have k1 : ((K : Int) == 0) = false := by simp; omega
  by_cases h1 : 16 < K
  · have k2 : (16 : Int) < (K : Int) := by omega
    have hr : r = 5 := by rw [← HR.out]; unfold checkS; rw [if_neg (by rw [← HK.out]; exact h0), if_pos (by rw [← HK.out]; exact h1)]
    have HR2 := Lib.hid hr
    clear hr
    go_wp2
    go_ret
    exact ⟨ret_int HR2.out.symm, E0⟩
  have k2 : ¬ (16 : Int) < (K : Int) := by omega
  go_wp2_with fail
  refine (counts_any need K na nc _ HK.out HKM.out (HC.out.ext E0)).mono ?_
  rintro e w1 ⟨rfl, hE⟩
  have E1 := E0.trans hE
  have a1 := hE.cell y1
  have a2 := hE.cell y2
  clear hE E0 y1 y2
  cases hn : need.any isNeg
  case true =>
    have hr : r = 2 := by rw [← HR.out]; unfold checkS; rw [if_neg (by rw [← HK.out]; exact h0), if_neg (by rw [← HK.out]; exact h1), if_pos hn]
    have HR2 := Lib.hid hr
    clear hr hn
    go_wp2
    go_ret
    exact ⟨ret_int HR2.out.symm, E1⟩
  by_cases h3 : 64 < N
  · have k3 : (64 : Int) < (N : Int) := by omega
    have hr : r = 5 := by rw [← HR.out]; unfold checkS; rw [if_neg (by rw [← HK.out]; exact h0), if_neg (by rw [← HK.out]; exact h1), if_neg (by rw [hn]; simp), if_pos (by rw [← HN.out]; exact h3)]
    have HR2 := Lib.hid hr
    clear hr hn
    go_wp2
    go_ret
    exact ⟨ret_int HR2.out.symm, E1⟩
  have k3 : ¬ (64 : Int) < (N : Int) := by omega
  have HT : Hid (taskE K pks = r) := by
    show _ = _
    rw [← HR.out, check_tail (by rw [← HK.out]; exact h0) (by rw [← HK.out]; exact h1) hn (by rw [← HN.out]; exact h3), ← HK.out]
  clear hn
  go_wp2
  go_loopw [28] (fun t wr => ∃ k : Nat, k ≤ N ∧ t = .int .i64 k ∧ Hid (∀ j, j < k → parcelS K (pks.getD j pk0) = 0) ∧ Ext w1 wr) (fun t _ => N - (intOf t).toNat)
  case atStart => exact ⟨0, Nat.zero_le _, rfl, fun j hj => absurd hj (Nat.not_lt_zero j), Ext.refl _⟩
  case round =>
    obtain ⟨k, hkN, rfl, hz, he⟩ := hrel
    by_cases hlt : k < N
    · have hlt' : (k : Int) < (N : Int) := by omega
      have EK := E1.trans he
      obtain ⟨b, off, v, rfl, c1, c4, c2, c3⟩ := (HP.out.ext EK) k (by rw [← HN.out]; exact hlt)
      obtain ⟨ai, ci, rfl, c4, c5, c6⟩ := c4
      have hstep : ∀ e, parcelS K (pks.getD k pk0) = e → e ≠ 0 → r = e := fun e h1 h2 => by rw [← HT.out]; exact first_hit hz.out (by rw [← HN.out]; exact hlt) h1 h2
      have hnext : parcelS K (pks.getD k pk0) = 0 → ∀ j, j < k + 1 → parcelS K (pks.getD j pk0) = 0 := fun h j hj => by
        rcases Nat.lt_or_eq_of_le (Nat.le_of_lt_succ hj) with h2 | rfl
        · exact hz.out j h2
        · exact h
      generalize pks.getD k pk0 = p at c1 c2 c3 c4 c5 hstep hnext
      have HST := Lib.hid hstep
      have HNX := Lib.hid hnext
      have a1 := he.cell a1
      have a2 := he.cell a2
      have za := cell_lt a2
      dsimp only at za
      have zb := cell_lt c1
      dsimp only at zb
      have HC4 := Lib.hid c4
      obtain ⟨L, hL⟩ : ∃ L, L = p.parts.length := ⟨_, rfl⟩
      rw [← hL] at c1 c5
      have HL := Lib.hid hL
      have HLM : Hid (L ≤ maxLen) := by show _ ≤ _; omega
      clear hstep hnext c4 c5 c6 hz hL
      by_cases hKL : L = K
      · subst hKL
        go_wp2_with fail
        have E2 : Ext wr (wr.alloc (.cells #[.slice ai L ci, .int .i64 p.price, .int .i64 p.most] 62)) := (Ext.refl _).alloc _
        have d1 : (wr.alloc (.cells #[.slice ai L ci, .int .i64 p.price, .int .i64 p.most] 62)).cell? ⟨wr.heap.size, 1, none⟩ = some (.int .i64 p.price) := by go_simp
        have d2 : (wr.alloc (.cells #[.slice ai L ci, .int .i64 p.price, .int .i64 p.most] 62)).cell? ⟨wr.heap.size, 2, none⟩ = some (.int .i64 p.most) := by go_simp
        refine (counts_any p.parts L ai ci _ HL.out HLM.out (HC4.out.ext E2)).mono ?_
        rintro e w2 ⟨rfl, hE⟩
        have E3 := (EK.trans E2).trans hE
        have E4 := (he.trans E2).trans hE
        have d1 := hE.cell d1
        have d2 := hE.cell d2
        clear hE E2 a1 a2 c1 c2 c3 EK
        cases hpn : p.parts.any isNeg
        case true =>
          have HR2 : Hid (r = 2) := HST.out 2 (parcel_b HL.out.symm hpn) (by decide)
          clear hpn
          go_wp2
          go_ret
          exact ⟨ret_int HR2.out.symm, E3⟩
        have HPN := Lib.hid hpn
        clear hpn
        go_wp2_with fail
        refine (counts_any [p.price, p.most] 2 _ 2 _ rfl (by unfold maxLen; omega) (cells_two _ _ _ _ (by go_simp) (by go_simp))).mono ?_
        rintro e w3 ⟨rfl, hE⟩
        cases hpn : [p.price, p.most].any isNeg
        case true =>
          have HR2 : Hid (r = 2) := HST.out 2 (parcel_c HL.out.symm HPN.out hpn) (by decide)
          clear hpn
          go_wp2
          go_ret
          exact ⟨ret_int HR2.out.symm, (E3.alloc _).trans hE⟩
        have HG := Lib.hid (HNX.out (parcel_d HL.out.symm HPN.out hpn))
        clear hpn
        go_wp2
        exact ⟨⟨k + 1, by omega, by go_num, HG.out, (E4.alloc _).trans hE⟩, by simp [intOf]; omega⟩
      · have k5 : ((L : Int) == (K : Int)) = false := by simp; omega
        have k6 : ¬ (L : Int) = (K : Int) := by omega
        have HR2 : Hid (r = 8) := HST.out 8 (parcel_a (fun h => hKL (HL.out.trans h))) (by decide)
        have E2 : Ext w (wr.alloc (.cells #[.slice ai L ci, .int .i64 p.price, .int .i64 p.most] 62)) := EK.alloc _
        go_wp2
        go_ret
        exact ⟨ret_int HR2.out.symm, E2⟩
    · have hke : k = N := by omega
      subst hke
      have hlt' : ¬ (k : Int) < (k : Int) := by omega
      have HR2 : Hid (r = 0) := by
        show _ = _
        rw [← HT.out]
        exact first_end (by rw [← HN.out]; exact hz.out)
      go_wp2
      all_goals go_ret
      all_goals exact ⟨ret_int HR2.out.symm, E1.trans he⟩
end Go.Proofs.YtmndcdjcodfchaaGreatDoor
namespace Go.Proofs.YtmndcdjcodfchaaGreatDoor
open Go.RowKit
theorem ArrI.ext {A B : World} {b : Nat} {l : List Int} (h : ArrI A b l) (x : Ext A B) : ArrI B b l := fun j hj => by
  obtain ⟨h1, h2⟩ := h j hj
  exact ⟨x.cell h1, (Below.frozen (p := ⟨b, j, none⟩) x (cell_lt h1)).trans h2⟩
def SliceP (l : List Int) (w : World) (e : Ending) (w' : World) : Prop := ∃ a cap, e = .returned (.slice a l.length cap) ∧ CellsI w' a l ∧ l.length ≤ cap ∧ cap ≤ maxLen ∧ Ext w w'
def SliceE (l : List Int) (er : Int) (w : World) (e : Ending) (w' : World) : Prop := ∃ a cap, e = .returned (.tuple #[.slice a l.length cap, .int .i64 er]) ∧ CellsI w' a l ∧ l.length ≤ cap ∧ cap ≤ maxLen ∧ Ext w w'
theorem any_hit {n k : Nat} {f : Nat → Bool} (h : k < n) (hf : f k = true) : (List.range n).any f = true := List.any_eq_true.2 ⟨k, List.mem_range.2 h, hf⟩
theorem any_end {n : Nat} {f : Nat → Bool} (h : ∀ j, j < n → f j = false) : (List.range n).any f = false := by
  rw [List.any_eq_false]
  intro j hj
  rw [h j (List.mem_range.1 hj)]; simp
theorem given_bad {pks : List Pk} {need order : List Int} {r : Int} (h : checkS pks need = r) (h0 : r ≠ 0) : givenS pks need order = r := by unfold givenS; rw [h, if_pos h0]
theorem given_len {pks : List Pk} {need order : List Int} (h : checkS pks need = 0) (h0 : order.length ≠ pks.length) : givenS pks need order = 8 := by unfold givenS; rw [h, if_neg (by simp), if_pos h0]
theorem given_num {pks : List Pk} {need order : List Int} (h : checkS pks need = 0) (h0 : order.length = pks.length) : givenS pks need order = if (List.range order.length).any (overS pks order) = true then 2 else 0 := by
  unfold givenS; rw [h, if_neg (by simp), if_neg (fun h2 => h2 h0)]
set_option maxHeartbeats 4000000 in
theorem given_any {pks : List Pk} {need order : List Int} {pa : Option Addr} {pc : Nat} {na : Option Addr} {nc : Nat} {oa : Option Addr} {oc : Nat} {w : World} (ht : TaskG w pks need pa pc na nc) (ho : CellsI w oa order) (hol : order.length ≤ maxLen) :
    Calls Tryz.prog 59 #[taskV pks need pa pc na nc, .slice oa order.length oc] w fun e w' => e = .returned (.int .i64 (givenS pks need order)) ∧ Ext w w' := by
  have HCK := Lib.hid (fun w' (he : Ext w w') => Check_any (ht.ext he))
  unfold taskV at HCK ⊢
  unfold maxLen at hol
  obtain ⟨r, hr⟩ : ∃ r, givenS pks need order = r := ⟨_, rfl⟩
  rw [hr]
  have HR := Lib.hid hr
  have HP := Lib.hid ht.pk
  have HO := Lib.hid ho
  obtain ⟨N, hN⟩ : ∃ N, N = pks.length := ⟨_, rfl⟩
  obtain ⟨K, hK⟩ : ∃ K, K = need.length := ⟨_, rfl⟩
  obtain ⟨M, hM⟩ : ∃ M, M = order.length := ⟨_, rfl⟩
  rw [← hN, ← hK] at HCK
  rw [← hN, ← hK, ← hM]
  rw [← hM] at hol
  obtain ⟨c, hc⟩ : ∃ c, checkS pks need = c := ⟨_, rfl⟩
  rw [hc] at HCK
  have HC := Lib.hid hc
  have HN := Lib.hid hN
  have HM := Lib.hid hM
  clear ht hr hN hK ho hM hc
  have E0 : Ext w (w.alloc (.cells #[.slice pa N pc, .slice na K nc] 25)) := (Ext.refl _).alloc _
  have y1 : (w.alloc (.cells #[.slice pa N pc, .slice na K nc] 25)).cell? ⟨w.heap.size, 0, none⟩ = some (.slice pa N pc) := by go_simp
  have y2 : (w.alloc (.cells #[.slice pa N pc, .slice na K nc] 25)).cell? ⟨w.heap.size, 1, none⟩ = some (.slice na K nc) := by go_simp
  go_enter Tryz.func59, Tryz.ntmps59
  go_wp2_with fail
  refine (HCK.out _ E0).mono ?_
  rintro e w1 ⟨rfl, hE⟩
  have E1 := E0.trans hE
  have a1 := hE.cell y1
  clear hE E0 y1 y2 HCK
  by_cases h0 : c = 0
  · subst h0
    by_cases h1 : M = N
    · subst h1
      have h2 : givenS pks need order = if (List.range order.length).any (overS pks order) = true then 2 else 0 := given_num HC.out (by rw [← HM.out, ← HN.out])
      rw [HR.out] at h2
      have HR2 := Lib.hid h2
      clear h2
      go_wp2
      go_loopw [21] (fun t wr => ∃ k : Nat, k ≤ M ∧ t = .int .i64 k ∧ Hid (∀ j, j < k → overS pks order j = false) ∧ Ext w1 wr) (fun t _ => M - (intOf t).toNat)
      case atStart => exact ⟨0, Nat.zero_le _, rfl, fun j hj => absurd hj (Nat.not_lt_zero j), Ext.refl _⟩
      case round =>
        obtain ⟨k, hkN, rfl, hz, he⟩ := hrel
        by_cases hlt : k < M
        · have hlt' : (k : Int) < (M : Int) := by omega
          have EK := E1.trans he
          obtain ⟨b, off, v, rfl, c1, _, c2, c3⟩ := (HP.out.ext EK) k (by rw [← HN.out]; exact hlt)
          obtain ⟨b2, off2, rfl, c4⟩ := HO.out.ext EK k (by rw [← HM.out]; exact hlt)
          have hbad : overS pks order k = true → r = 2 := fun h => by rw [HR2.out, if_pos (any_hit (by rw [← HM.out]; exact hlt) h)]
          have hnext : overS pks order k = false → ∀ j, j < k + 1 → overS pks order j = false := fun h j hj => by
            rcases Nat.lt_or_eq_of_le (Nat.le_of_lt_succ hj) with h2 | rfl
            · exact hz.out j h2
            · exact h
          have ho : overS pks order k = (decide (order.getD k 0 < 0) || decide ((pks.getD k pk0).most < order.getD k 0)) := rfl
          rw [ho] at hbad hnext
          generalize (pks.getD k pk0).most = m at c3 hbad hnext
          generalize order.getD k 0 = x at c4 hbad hnext
          have a1 := he.cell a1
          have za := cell_lt a1
          have zb := cell_lt c1
          have zc := cell_lt c4
          dsimp only at za zb zc
          clear ho
          by_cases hx : x < 0
          · have HR3 : Hid (r = 2) := hbad (by simp [hx])
            clear hbad hnext hz
            go_wp2
            go_ret
            exact ⟨ret_int HR3.out.symm, EK⟩
          by_cases hx2 : m < x
          · have HR3 : Hid (r = 2) := hbad (by simp [hx2])
            clear hbad hnext hz
            go_wp2
            go_ret
            exact ⟨ret_int HR3.out.symm, EK⟩
          · have HG := Lib.hid (hnext (by simp; omega))
            clear hbad hnext hz
            go_wp2
            exact ⟨⟨k + 1, by omega, by go_num, HG.out, he⟩, by simp [intOf]; omega⟩
        · have hke : k = M := by omega
          subst hke
          have hlt' : ¬ (k : Int) < (k : Int) := by omega
          have HR3 : Hid (r = 0) := by
            show _ = _
            rw [HR2.out, if_neg]
            rw [any_end (by rw [← HM.out]; exact hz.out)]; simp
          go_wp2
          go_ret
          exact ⟨ret_int HR3.out.symm, E1.trans he⟩
    · have k1 : ((M : Int) == (N : Int)) = false := by simp; omega
      have k2 : ¬ (M : Int) = (N : Int) := by omega
      have HR2 : Hid (r = 8) := by show _ = _; rw [← HR.out]; exact given_len HC.out (by rw [← HM.out, ← HN.out]; exact h1)
      go_wp2
      go_ret
      exact ⟨ret_int HR2.out.symm, E1⟩
  · have k1 : (c == 0) = false := by simp [h0]
    have HR2 : Hid (r = c) := by show _ = _; rw [← HR.out]; exact given_bad HC.out h0
    go_wp2
    go_ret
    exact ⟨ret_int HR2.out.symm, E1⟩
theorem lack_any (x : Int) (w : World) : Calls Tryz.prog 63 #[.int .i64 x] w fun e w' => e = .returned (.bool (lackB x)) ∧ Ext w w' := by
  unfold lackB
  by_cases h1 : x < 0
  · go_enter Tryz.func63, Tryz.ntmps63
    go_wp2
    all_goals go_ret
    all_goals exact ⟨ret_bool (by first | (simp; done) | (simp; omega)), Ext.refl _⟩
  · go_enter Tryz.func63, Tryz.ntmps63
    go_wp2
    all_goals go_ret
    all_goals exact ⟨ret_bool (by first | (simp; done) | (simp; omega)), Ext.refl _⟩
set_option maxHeartbeats 1000000 in
theorem IndexLack_any (l : List Int) (n : Nat) (a : Option Addr) (cap : Nat) (w : World) (hn : n = l.length) (hl : n ≤ maxLen) (hc : CellsI w a l) :
    Calls Tryz.prog 71 #[.slice a n cap, .func (.func 63) #[] #[]] w fun e w' => ∃ r : Int, e = .returned (.int .i64 r) ∧ decide (0 ≤ r) = l.any lackB ∧ Ext w w' := by
  unfold maxLen at hl
  have HC := Lib.hid hc
  have HN := Lib.hid hn
  clear hc hn
  go_enter Tryz.func71, Tryz.ntmps71
  go_wp2
  go_loopw [8] (fun i wr => ∃ k : Nat, k ≤ n ∧ i = .int .i64 k ∧ Hid (∀ j, j < k → lackB (l.getD j 0) = false) ∧ Ext w wr) (fun i _ => n - (intOf i).toNat)
  case atStart => exact ⟨0, Nat.zero_le _, rfl, fun j hj => by omega, Ext.refl _⟩
  case round =>
    obtain ⟨k, hk, rfl, hnn, he⟩ := hrel
    by_cases hlt : k < n
    · have hlt' : (k : Int) < (n : Int) := by omega
      obtain ⟨b, off, rfl, c1⟩ := HC.out.ext he k (by rw [← HN.out]; exact hlt)
      have HM : Hid (l.getD k 0 ∈ l) := by
        show _ ∈ _
        have h := HN.out
        rw [List.getD_eq_getElem?_getD, List.getElem?_eq_getElem (show k < l.length by omega)]; simp
      generalize hx : l.getD k 0 = x at c1 HM
      have HX := Lib.hid hx
      clear hx
      have z1 := cell_lt c1
      dsimp only at z1
      go_wp2_with fail
      refine (lack_any x _).mono ?_
      rintro e w1 ⟨rfl, hE⟩
      have E1 := he.trans hE
      cases hp : lackB x
      · go_wp2
        refine ⟨⟨k + 1, by omega, by go_num, fun j hj => ?_, E1⟩, by simp [intOf]; omega⟩
        rcases Nat.lt_or_eq_of_le (Nat.le_of_lt_succ hj) with h | rfl
        · exact hnn.out j h
        · rw [HX.out]; exact hp
      · have HA : Hid (l.any lackB = true) := List.any_eq_true.2 ⟨x, HM.out, hp⟩
        go_wp2
        go_ret
        exact ⟨(k : Int), rfl, by rw [HA.out]; simp, E1⟩
    · have hlt' : ¬ (k : Int) < (n : Int) := by omega
      have HA : Hid (l.any lackB = false) := by
        show _ = _
        rw [List.any_eq_false]
        intro x hx
        obtain ⟨i, hi, e⟩ := List.mem_iff_getElem.1 hx
        have := hnn.out i (by have h := HN.out; omega)
        rw [List.getD_eq_getElem?_getD, List.getElem?_eq_getElem hi] at this
        simp at this
        rw [← e, this]; simp
      go_wp2
      go_ret
      exact ⟨-1, rfl, by rw [HA.out]; simp, he⟩
set_option maxHeartbeats 2000000 in
theorem ContainsLack_any (l : List Int) (n : Nat) (a : Option Addr) (cap : Nat) (w : World) (hn : n = l.length) (hl : n ≤ maxLen) (hc : CellsI w a l) :
    Calls Tryz.prog 44 #[.slice a n cap, .func (.func 63) #[] #[]] w fun e w' => e = .returned (.bool (l.any lackB)) ∧ Ext w w' := by
  have HC := Lib.hid hc
  have HN := Lib.hid hn
  have HL := Lib.hid hl
  clear hc hn hl
  go_enter Tryz.func44, Tryz.ntmps44
  go_wp2_with fail
  refine (IndexLack_any l n a cap _ HN.out HL.out HC.out).mono ?_
  rintro e w1 ⟨r, rfl, hr, hE⟩
  have HR := Lib.hid hr
  clear hr
  go_wp2
  all_goals go_ret
  all_goals exact ⟨ret_bool HR.out, hE⟩
theorem gives_bd {pks : List Pk} {need order : List Int} (h : Gives pks need order) (i : Nat) (hi : i < pks.length) : 0 ≤ order.getD i 0 ∧ order.getD i 0 ≤ 1048576 := by
  have h1 := h.num i hi
  have h2 := h.r.most _ (getD_mem (d := pk0) hi)
  omega
theorem costT_bd {pks : List Pk} {need order : List Int} (h : Gives pks need order) (j : Nat) (hj : j ≤ pks.length) : 0 ≤ dotT Pk.price pks order j ∧ dotT Pk.price pks order j ≤ 70368744177664 := by
  obtain ⟨h1, h2⟩ := dotT_bd (f := Pk.price) (C := 1048576) (B := 1048576) (by decide) h.r.price (gives_bd h) h.len j hj
  have := h.r.pl
  omega
theorem amtT_bd {pks : List Pk} {need order : List Int} (h : Gives pks need order) (k : Nat) (hk : k < need.length) (j : Nat) (hj : j ≤ pks.length) : 0 ≤ dotT (fun p => p.parts.getD k 0) pks order j ∧ dotT (fun p => p.parts.getD k 0) pks order j ≤ 70368744177664 := by
  obtain ⟨h1, h2⟩ := dotT_bd (f := fun p => p.parts.getD k 0) (C := 1048576) (B := 1048576) (by decide) (fun p hp => h.r.num p hp _ (getD_mem (by rw [h.r.parts p hp]; exact hk))) (gives_bd h) h.len j hj
  have := h.r.pl
  omega
set_option maxHeartbeats 4000000 in
theorem cost_any {pks : List Pk} {need order : List Int} {pa : Option Addr} {pc : Nat} {na : Option Addr} {nc : Nat} {oa : Option Addr} {oc : Nat} {w : World} (ht : TaskG w pks need pa pc na nc) (ho : CellsI w oa order) (hg : Gives pks need order) :
    Calls Tryz.prog 60 #[taskV pks need pa pc na nc, .slice oa order.length oc] w fun e w' => e = .returned (.int .i64 (costS pks order)) ∧ Ext w w' := by
  unfold taskV
  have HP := Lib.hid ht.pk
  have HO := Lib.hid ho
  have HG := Lib.hid hg
  obtain ⟨N, hN⟩ : ∃ N, N = pks.length := ⟨_, rfl⟩
  obtain ⟨K, hK⟩ : ∃ K, K = need.length := ⟨_, rfl⟩
  have hNl := hg.r.pl
  rw [hg.len, ← hN, ← hK]
  rw [← hN] at hNl
  have HN := Lib.hid hN
  have HS : Hid (dotT Pk.price pks order N = costS pks order) := dotT_full _ hg.len hN
  generalize costS pks order = c at HS ⊢
  clear ht hN hK ho hg
  have E0 : Ext w (w.alloc (.cells #[.slice pa N pc, .slice na K nc] 25)) := (Ext.refl _).alloc _
  have y1 : (w.alloc (.cells #[.slice pa N pc, .slice na K nc] 25)).cell? ⟨w.heap.size, 0, none⟩ = some (.slice pa N pc) := by go_simp
  go_enter Tryz.func60, Tryz.ntmps60
  go_wp2
  generalize w.alloc (.cells #[.slice pa N pc, .slice na K nc] 25) = W at E0 y1 ⊢
  go_loopw [5, 10] (fun m i wr => ∃ k : Nat, k ≤ N ∧ i = .int .i64 k ∧ m = .int .i64 (dotT Pk.price pks order k) ∧ Ext W wr) (fun _ i _ => N - (intOf i).toNat)
  case atStart => exact ⟨0, Nat.zero_le _, rfl, by rw [dotT_zero], Ext.refl _⟩
  case round =>
    obtain ⟨k, hkk, rfl, rfl, he⟩ := hrel
    by_cases hlt : k < N
    · have hlt' : (k : Int) < (N : Int) := by omega
      have EK := E0.trans he
      have hi : k < pks.length := by rw [← HN.out]; exact hlt
      obtain ⟨b, off, v, rfl, c1, _, c2, c3⟩ := (HP.out.ext EK) k hi
      obtain ⟨b2, off2, rfl, c4⟩ := HO.out.ext EK k (by rw [HG.out.len]; exact hi)
      have hs := dotT_succ Pk.price (ps := pks) (o := order) hi (by rw [HG.out.len]; exact hi)
      have hb1 := costT_bd HG.out k (by omega)
      have hb2 := costT_bd HG.out (k + 1) (by omega)
      have hb3 := gives_bd HG.out k hi
      have hb4 := HG.out.r.price _ (getD_mem (d := pk0) hi)
      rw [hs] at hb2
      generalize (pks.getD k pk0).price = m at c2 hs hb4 hb2
      generalize order.getD k 0 = x at c4 hs hb3 hb2
      generalize dotT Pk.price pks order k = s at hs hb1 hb2 ⊢
      have hmx : 0 ≤ x * m ∧ x * m ≤ 1099511627776 := ⟨Int.mul_nonneg hb3.1 hb4.1, Int.mul_le_mul hb3.2 hb4.2 hb4.1 (by omega)⟩
      have HSS := Lib.hid hs
      have q1 : IntKind.i64.wrap (x * m) = x * m := IntWalk.i64_in _ (by omega)
      have q2 : IntKind.i64.wrap (s + x * m) = s + x * m := IntWalk.i64_in _ (by omega)
      have a1 := he.cell y1
      have za := cell_lt a1
      have zb := cell_lt c1
      have zc := cell_lt c4
      dsimp only at za zb zc
      clear hs hb1 hb2 hb3 hb4 hi
      go_wp2
      exact ⟨⟨k + 1, by omega, by go_num, by rw [HSS.out], he⟩, by simp [intOf]; omega⟩
    · have hke : k = N := by omega
      subst hke
      have hlt' : ¬ (k : Int) < (k : Int) := by omega
      rw [HS.out]
      go_wp2
      go_ret
      exact ⟨rfl, E0.trans he⟩
theorem costR_bad {pks : List Pk} {need order : List Int} (h : givenS pks need order ≠ 0) : costR pks need order = 0 := by unfold costR; rw [if_neg h]
theorem costR_ok {pks : List Pk} {need order : List Int} (h : givenS pks need order = 0) : costR pks need order = costS pks order := by unfold costR; rw [if_pos h]
set_option maxHeartbeats 2000000 in
theorem Cost_any {pks : List Pk} {need order : List Int} {pa : Option Addr} {pc : Nat} {na : Option Addr} {nc : Nat} {oa : Option Addr} {oc : Nat} {w : World} (ht : TaskG w pks need pa pc na nc) (ho : CellsI w oa order) (hol : order.length ≤ maxLen) :
    Calls Tryz.prog 19 #[taskV pks need pa pc na nc, .slice oa order.length oc] w fun e w' => e = .returned (.tuple #[.int .i64 (costR pks need order), .int .i64 (givenS pks need order)]) ∧ Ext w w' := by
  have H1 := Lib.hid (fun w' (he : Ext w w') => given_any (oc := oc) (ht.ext he) (ho.ext he) hol)
  have H2 := Lib.hid (fun w' (he : Ext w w') hg => cost_any (oc := oc) (ht.ext he) (ho.ext he) hg)
  obtain ⟨r, hr⟩ : ∃ r, givenS pks need order = r := ⟨_, rfl⟩
  obtain ⟨c, hc⟩ : ∃ c, costR pks need order = c := ⟨_, rfl⟩
  rw [hr] at H1
  rw [hr, hc]
  have HR := Lib.hid hr
  have HCC := Lib.hid hc
  unfold taskV at H1 H2 ⊢
  clear ht ho hol hr hc
  have E0 : Ext w (w.alloc (.cells #[.slice pa pks.length pc, .slice na need.length nc] 25)) := (Ext.refl _).alloc _
  have y1 : (w.alloc (.cells #[.slice pa pks.length pc, .slice na need.length nc] 25)).cell? ⟨w.heap.size, 0, none⟩ = some (.slice pa pks.length pc) := by go_simp
  have y2 : (w.alloc (.cells #[.slice pa pks.length pc, .slice na need.length nc] 25)).cell? ⟨w.heap.size, 1, none⟩ = some (.slice na need.length nc) := by go_simp
  go_enter Tryz.func19, Tryz.ntmps19
  go_wp2_with fail
  refine (H1.out _ E0).mono ?_
  rintro e w1 ⟨rfl, hE⟩
  have E1 := E0.trans hE
  have a1 := hE.cell y1
  have a2 := hE.cell y2
  have za := cell_lt a1
  dsimp only at za
  clear hE E0 y1 y2 H1
  by_cases h0 : r = 0
  · subst h0
    have HC2 : Hid (costS pks order = c) := by show _ = _; rw [← HCC.out]; exact (costR_ok HR.out).symm
    go_wp2_with fail
    refine (H2.out _ E1 (gives_of HR.out)).mono ?_
    rintro e w2 ⟨rfl, hE⟩
    rw [HC2.out]
    go_wp2
    go_ret2
    exact ⟨rfl, E1.trans hE⟩
  · have k1 : (r == 0) = false := by simp [h0]
    obtain rfl : c = 0 := by rw [← HCC.out]; exact costR_bad (by rw [HR.out]; exact h0)
    go_wp2
    go_ret2
    exact ⟨rfl, E1⟩
end Go.Proofs.YtmndcdjcodfchaaGreatDoor
